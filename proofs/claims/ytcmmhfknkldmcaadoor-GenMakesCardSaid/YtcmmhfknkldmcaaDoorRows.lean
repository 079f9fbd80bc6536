/-
  NARROWER THAN 'FOR EVERY INPUT', by the rows' own cells (each row's printed sentence says how): GenMay: laid · GenRels: laid · GenFrame: laid · GenInside: laid · GenMakes: laid.
  DERIVED. THE GIVEN ROWS OF THIS SEAT. 5 by the template 'for every input the law returns true; each argument reads behind the call as it read before'; 0 by the template 'total and deterministic' (their statements: YtcmmhfknkldmcaaDoorTotals.lean).
  GIVEN WITH THE SEED: the statements are not yours to turn. If you find one false, say at which input.
  Laid BY PROGRAM, IN A SANDBOX (cutbox-rows.mjs): the forced cells as the released guide's own fill.sh prints them over the translation 5fb657ec32dbbe50… (all of the seat's roots in one cut). By AI agents, Wed Nov 11 2026. No macro, syntax, notation, axiom, sorry.
-/
import Derived.Test.YtcmmhfknkldmcaaDoorChecked
import GoSem.Claim
import GoSem.ClaimJoined
import GoSem.ClaimMapViews
import Derived.JoinedTies
import Derived.KernelRfl
namespace Go.Proofs.YtcmmhfknkldmcaaDoor
/- THE CELL 'sum', in the pinned program and in every row, IS THE sha256 OF THE DUMP (.gsa) THAT YtcmmhfknkldmcaaDoorProg.lean LOADS. Nothing in Lean hashes anything: it is a label: what it is worth is what the hold of that sum in a sandbox is worth. -/
noncomputable def Tryd.pinned : Pinned := { name := "ytcmmhfknkldmcaadoor", sum := "5fb657ec32dbbe50a10104cf99a93e042ae3cbe34cb63774273831a1af2cc7a3", checked := Tryd.checked }
namespace Rows
def none {H : Type} : Left H := { results := [], args := [] }

/- WHAT THE LISTED PACKAGE-LEVEL VARIABLES READ AS WHEN THE CALL BEGINS. Each datum BY PROGRAM (the guide's laid-datum.mjs) off the statement by which the dump's own 'gosem.cut.vars' lays the variable. In a bare row this is a premise. The card (YtcmmhfknkldmcaaDoorCards.lean) ties it to the program's text. -/
def laid_marline_gen_reckons {H : Type} : DataW H := .agg [.lit (.int .i64 0), .lit (.int .i64 0), .lit (.int .i64 1), .lit (.int .i64 2), .lit (.int .i64 9), .lit (.int .i64 8), .lit (.int .i64 7), .lit (.int .i64 5), .lit (.int .i64 3), .lit (.int .i64 6), .lit (.int .i64 4), .lit (.int .i64 2)]

/-- 'marlinelaw17.GenMay': WHATEVER THE INPUT: true; the input reads as it did. -/
def genMaySpec : ChangeSpec := { name := "genMay", fn := fun _ => fun
  | [d] => { results := [.lit (.bool true)], args := [d] }
  | _ => none }
def genMayRow : OpenClaim := { program := "ytcmmhfknkldmcaadoor", sum := "5fb657ec32dbbe50a10104cf99a93e042ae3cbe34cb63774273831a1af2cc7a3", func := "marline/marlinelaw17.GenMay", spec := "genMay", unfollowed := true, recurses := true, named := ["marline/gen.reckons"], apart := false, laid := [("marline/gen.reckons", laid_marline_gen_reckons)] }
def GenMaySaid : Prop := genMayRow.holds Tryd.pinned (OpenSpec.ofChange genMaySpec)

/-- ITS FALSE NEIGHBOUR: 'it returns false'. Refute it at one input. -/
def genMayWrong : ChangeSpec := { name := "genMay", fn := fun _ => fun
  | [d] => { results := [.lit (.bool false)], args := [d] }
  | _ => none }
def GenMayWrongFalsely : Prop := genMayRow.holds Tryd.pinned (OpenSpec.ofChange genMayWrong)

/-- 'marlinelaw17.GenRels': WHATEVER THE INPUT: true; the input reads as it did. -/
def genRelsSpec : ChangeSpec := { name := "genRels", fn := fun _ => fun
  | [d] => { results := [.lit (.bool true)], args := [d] }
  | _ => none }
def genRelsRow : OpenClaim := { program := "ytcmmhfknkldmcaadoor", sum := "5fb657ec32dbbe50a10104cf99a93e042ae3cbe34cb63774273831a1af2cc7a3", func := "marline/marlinelaw17.GenRels", spec := "genRels", unfollowed := true, recurses := true, named := ["marline/gen.reckons"], apart := false, laid := [("marline/gen.reckons", laid_marline_gen_reckons)] }
def GenRelsSaid : Prop := genRelsRow.holds Tryd.pinned (OpenSpec.ofChange genRelsSpec)

/-- ITS FALSE NEIGHBOUR: 'it returns false'. Refute it at one input. -/
def genRelsWrong : ChangeSpec := { name := "genRels", fn := fun _ => fun
  | [d] => { results := [.lit (.bool false)], args := [d] }
  | _ => none }
def GenRelsWrongFalsely : Prop := genRelsRow.holds Tryd.pinned (OpenSpec.ofChange genRelsWrong)

/-- 'marlinelaw17.GenFrame': WHATEVER THE INPUT: true; the input reads as it did. -/
def genFrameSpec : ChangeSpec := { name := "genFrame", fn := fun _ => fun
  | [d] => { results := [.lit (.bool true)], args := [d] }
  | _ => none }
def genFrameRow : OpenClaim := { program := "ytcmmhfknkldmcaadoor", sum := "5fb657ec32dbbe50a10104cf99a93e042ae3cbe34cb63774273831a1af2cc7a3", func := "marline/marlinelaw17.GenFrame", spec := "genFrame", unfollowed := true, recurses := true, named := ["marline/gen.reckons"], apart := false, laid := [("marline/gen.reckons", laid_marline_gen_reckons)] }
def GenFrameSaid : Prop := genFrameRow.holds Tryd.pinned (OpenSpec.ofChange genFrameSpec)

/-- ITS FALSE NEIGHBOUR: 'it returns false'. Refute it at one input. -/
def genFrameWrong : ChangeSpec := { name := "genFrame", fn := fun _ => fun
  | [d] => { results := [.lit (.bool false)], args := [d] }
  | _ => none }
def GenFrameWrongFalsely : Prop := genFrameRow.holds Tryd.pinned (OpenSpec.ofChange genFrameWrong)

/-- 'marlinelaw17.GenInside': WHATEVER THE INPUT: true; the input reads as it did. -/
def genInsideSpec : ChangeSpec := { name := "genInside", fn := fun _ => fun
  | [d] => { results := [.lit (.bool true)], args := [d] }
  | _ => none }
def genInsideRow : OpenClaim := { program := "ytcmmhfknkldmcaadoor", sum := "5fb657ec32dbbe50a10104cf99a93e042ae3cbe34cb63774273831a1af2cc7a3", func := "marline/marlinelaw17.GenInside", spec := "genInside", unfollowed := true, recurses := true, named := ["marline/gen.reckons"], apart := false, laid := [("marline/gen.reckons", laid_marline_gen_reckons)] }
def GenInsideSaid : Prop := genInsideRow.holds Tryd.pinned (OpenSpec.ofChange genInsideSpec)

/-- ITS FALSE NEIGHBOUR: 'it returns false'. Refute it at one input. -/
def genInsideWrong : ChangeSpec := { name := "genInside", fn := fun _ => fun
  | [d] => { results := [.lit (.bool false)], args := [d] }
  | _ => none }
def GenInsideWrongFalsely : Prop := genInsideRow.holds Tryd.pinned (OpenSpec.ofChange genInsideWrong)

/-- 'marlinelaw17.GenMakes': WHATEVER THE INPUT: true; the input reads as it did. -/
def genMakesSpec : ChangeSpec := { name := "genMakes", fn := fun _ => fun
  | [d1, d2, d3] => { results := [.lit (.bool true)], args := [d1, d2, d3] }
  | _ => none }
def genMakesRow : OpenClaim := { program := "ytcmmhfknkldmcaadoor", sum := "5fb657ec32dbbe50a10104cf99a93e042ae3cbe34cb63774273831a1af2cc7a3", func := "marline/marlinelaw17.GenMakes", spec := "genMakes", unfollowed := true, recurses := true, named := ["marline/gen.reckons"], apart := false, laid := [("marline/gen.reckons", laid_marline_gen_reckons)] }
def GenMakesSaid : Prop := genMakesRow.holds Tryd.pinned (OpenSpec.ofChange genMakesSpec)

/-- ITS FALSE NEIGHBOUR: 'it returns false'. Refute it at one input. -/
def genMakesWrong : ChangeSpec := { name := "genMakes", fn := fun _ => fun
  | [d1, d2, d3] => { results := [.lit (.bool false)], args := [d1, d2, d3] }
  | _ => none }
def GenMakesWrongFalsely : Prop := genMakesRow.holds Tryd.pinned (OpenSpec.ofChange genMakesWrong)

/- THE SECOND FORM. 'bulk': how many values and letters a reading holds, each counted each time it is reached (what is shared counts as often as it is met; a slice's spare places count too). A statement '..UptoSaid' is the law's where the arguments, and the package variables that the reading takes, are together of bulk at most 1048576: NARROWER than '..Said'. Prove '..Said' where nothing that the law and all that it calls make is longer than what came in: it says more and counts as full. Else prove '..UptoSaid'. A law counts once. -/
mutual
def uptoBulk {H : Type} : DataW H → Nat
  | .lit (.string bytes) => bytes.length + 1
  | .lit _ => 1
  | .nil => 1
  | .ptr d => uptoBulk d + 1
  | .slice elems spare => uptoBulkAll elems + uptoBulkAll spare + 1
  | .agg parts => uptoBulkAll parts + 1
  | .iface _ d => uptoBulk d + 1
  | .map entries => uptoBulkEntries entries + 1
  | .held _ => 1
def uptoBulkAll {H : Type} : List (DataW H) → Nat
  | [] => 0
  | d :: r => uptoBulk d + uptoBulkAll r
def uptoBulkEntries {H : Type} : List (Lit × DataW H) → Nat
  | [] => 0
  | x :: r => uptoBulkEntry x + uptoBulkEntries r
def uptoBulkEntry {H : Type} : Lit × DataW H → Nat
  | (.string bytes, d) => bytes.length + uptoBulk d + 1
  | (_, d) => uptoBulk d + 1
 end
def uptoSmall : (H : Type) → List (DataW H) → Bool := fun _ ds => decide (uptoBulkAll ds ≤ 1048576)
def OpenSpec.upto (s : _root_.Go.ChangeSpec) : _root_.Go.OpenSpec := { _root_.Go.OpenSpec.ofChange s with cond := some uptoSmall }

/-- 'marlinelaw17.GenMay', WHERE WHAT IT READS IS OF BULK AT MOST 1048576: true; the input reads as it did. -/
def genMayUptoRow : OpenClaim := { program := "ytcmmhfknkldmcaadoor", sum := "5fb657ec32dbbe50a10104cf99a93e042ae3cbe34cb63774273831a1af2cc7a3", func := "marline/marlinelaw17.GenMay", spec := "genMay", unfollowed := true, recurses := true, named := ["marline/gen.reckons"], apart := false, laid := [("marline/gen.reckons", laid_marline_gen_reckons)], narrowed := true }
def GenMayUptoSaid : Prop := genMayUptoRow.holds Tryd.pinned (OpenSpec.upto genMaySpec)

/-- 'marlinelaw17.GenRels', WHERE WHAT IT READS IS OF BULK AT MOST 1048576: true; the input reads as it did. -/
def genRelsUptoRow : OpenClaim := { program := "ytcmmhfknkldmcaadoor", sum := "5fb657ec32dbbe50a10104cf99a93e042ae3cbe34cb63774273831a1af2cc7a3", func := "marline/marlinelaw17.GenRels", spec := "genRels", unfollowed := true, recurses := true, named := ["marline/gen.reckons"], apart := false, laid := [("marline/gen.reckons", laid_marline_gen_reckons)], narrowed := true }
def GenRelsUptoSaid : Prop := genRelsUptoRow.holds Tryd.pinned (OpenSpec.upto genRelsSpec)

/-- 'marlinelaw17.GenFrame', WHERE WHAT IT READS IS OF BULK AT MOST 1048576: true; the input reads as it did. -/
def genFrameUptoRow : OpenClaim := { program := "ytcmmhfknkldmcaadoor", sum := "5fb657ec32dbbe50a10104cf99a93e042ae3cbe34cb63774273831a1af2cc7a3", func := "marline/marlinelaw17.GenFrame", spec := "genFrame", unfollowed := true, recurses := true, named := ["marline/gen.reckons"], apart := false, laid := [("marline/gen.reckons", laid_marline_gen_reckons)], narrowed := true }
def GenFrameUptoSaid : Prop := genFrameUptoRow.holds Tryd.pinned (OpenSpec.upto genFrameSpec)

/-- 'marlinelaw17.GenInside', WHERE WHAT IT READS IS OF BULK AT MOST 1048576: true; the input reads as it did. -/
def genInsideUptoRow : OpenClaim := { program := "ytcmmhfknkldmcaadoor", sum := "5fb657ec32dbbe50a10104cf99a93e042ae3cbe34cb63774273831a1af2cc7a3", func := "marline/marlinelaw17.GenInside", spec := "genInside", unfollowed := true, recurses := true, named := ["marline/gen.reckons"], apart := false, laid := [("marline/gen.reckons", laid_marline_gen_reckons)], narrowed := true }
def GenInsideUptoSaid : Prop := genInsideUptoRow.holds Tryd.pinned (OpenSpec.upto genInsideSpec)

/-- 'marlinelaw17.GenMakes', WHERE WHAT IT READS IS OF BULK AT MOST 1048576: true; the input reads as it did. -/
def genMakesUptoRow : OpenClaim := { program := "ytcmmhfknkldmcaadoor", sum := "5fb657ec32dbbe50a10104cf99a93e042ae3cbe34cb63774273831a1af2cc7a3", func := "marline/marlinelaw17.GenMakes", spec := "genMakes", unfollowed := true, recurses := true, named := ["marline/gen.reckons"], apart := false, laid := [("marline/gen.reckons", laid_marline_gen_reckons)], narrowed := true }
def GenMakesUptoSaid : Prop := genMakesUptoRow.holds Tryd.pinned (OpenSpec.upto genMakesSpec)

end Rows
end Go.Proofs.YtcmmhfknkldmcaaDoor
