/-
  No cell of these rows narrows 'for every input' (looked for: loops, veiled, ifaces, maps, wideKeys, modest, calm, conditions, laid).
  DERIVED. THE GIVEN ROWS OF THIS SEAT. 6 by the template 'for every input the law returns true; each argument reads behind the call as it read before'; 0 by the template 'total and deterministic' (their statements: YtdlcmhkfglckfaaTotals.lean).
  GIVEN WITH THE SEED: the statements are not yours to turn. If you find one false, say at which input.
  Laid BY PROGRAM, IN A SANDBOX (cutbox-rows.mjs): the forced cells as the released guide's own fill.sh prints them over the translation c294d0bf36d27729… (all of the seat's roots in one cut). By AI agents, Wed Nov 11 2026. No macro, syntax, notation, axiom, sorry.
-/
import Derived.Test.YtdlcmhkfglckfaaChecked
import GoSem.Claim
import GoSem.ClaimJoined
import GoSem.ClaimMapViews
import Derived.JoinedTies
import Derived.KernelRfl
namespace Go.Proofs.Ytdlcmhkfglckfaa
/- THE CELL 'sum', in the pinned program and in every row, IS THE sha256 OF THE DUMP (.gsa) THAT YtdlcmhkfglckfaaProg.lean LOADS. Nothing in Lean hashes anything: it is a label: what it is worth is what the hold of that sum in a sandbox is worth. -/
noncomputable def Try.pinned : Pinned := { name := "ytdlcmhkfglckfaa", sum := "c294d0bf36d27729549c945f206570592a7f2bf977dc59f0aebe91dea80faaf2", checked := Try.checked }
namespace Rows
def none {H : Type} : Left H := { results := [], args := [] }

/-- 'marlinelaw13.TrimKeeps': WHATEVER THE INPUT: true; the input reads as it did. -/
def trimKeepsSpec : ChangeSpec := { name := "trimKeeps", fn := fun _ => fun
  | [d1, d2] => { results := [.lit (.bool true)], args := [d1, d2] }
  | _ => none }
def trimKeepsRow : OpenClaim := { program := "ytdlcmhkfglckfaa", sum := "c294d0bf36d27729549c945f206570592a7f2bf977dc59f0aebe91dea80faaf2", func := "marline/marlinelaw13.TrimKeeps", spec := "trimKeeps", unfollowed := true, recurses := true, apart := false }
def TrimKeepsSaid : Prop := trimKeepsRow.holds Try.pinned (OpenSpec.ofChange trimKeepsSpec)

/-- ITS FALSE NEIGHBOUR: 'it returns false'. Refute it at one input. -/
def trimKeepsWrong : ChangeSpec := { name := "trimKeeps", fn := fun _ => fun
  | [d1, d2] => { results := [.lit (.bool false)], args := [d1, d2] }
  | _ => none }
def TrimKeepsWrongFalsely : Prop := trimKeepsRow.holds Try.pinned (OpenSpec.ofChange trimKeepsWrong)

/-- 'marlinelaw13.TrimAll': WHATEVER THE INPUT: true; the input reads as it did. -/
def trimAllSpec : ChangeSpec := { name := "trimAll", fn := fun _ => fun
  | [d] => { results := [.lit (.bool true)], args := [d] }
  | _ => none }
def trimAllRow : OpenClaim := { program := "ytdlcmhkfglckfaa", sum := "c294d0bf36d27729549c945f206570592a7f2bf977dc59f0aebe91dea80faaf2", func := "marline/marlinelaw13.TrimAll", spec := "trimAll", unfollowed := true, recurses := true, apart := false }
def TrimAllSaid : Prop := trimAllRow.holds Try.pinned (OpenSpec.ofChange trimAllSpec)

/-- ITS FALSE NEIGHBOUR: 'it returns false'. Refute it at one input. -/
def trimAllWrong : ChangeSpec := { name := "trimAll", fn := fun _ => fun
  | [d] => { results := [.lit (.bool false)], args := [d] }
  | _ => none }
def TrimAllWrongFalsely : Prop := trimAllRow.holds Try.pinned (OpenSpec.ofChange trimAllWrong)

/-- 'marlinelaw13.TrimMakes': WHATEVER THE INPUT: true; the input reads as it did. -/
def trimMakesSpec : ChangeSpec := { name := "trimMakes", fn := fun _ => fun
  | [d1, d2] => { results := [.lit (.bool true)], args := [d1, d2] }
  | _ => none }
def trimMakesRow : OpenClaim := { program := "ytdlcmhkfglckfaa", sum := "c294d0bf36d27729549c945f206570592a7f2bf977dc59f0aebe91dea80faaf2", func := "marline/marlinelaw13.TrimMakes", spec := "trimMakes", unfollowed := true, recurses := true, apart := false }
def TrimMakesSaid : Prop := trimMakesRow.holds Try.pinned (OpenSpec.ofChange trimMakesSpec)

/-- ITS FALSE NEIGHBOUR: 'it returns false'. Refute it at one input. -/
def trimMakesWrong : ChangeSpec := { name := "trimMakes", fn := fun _ => fun
  | [d1, d2] => { results := [.lit (.bool false)], args := [d1, d2] }
  | _ => none }
def TrimMakesWrongFalsely : Prop := trimMakesRow.holds Try.pinned (OpenSpec.ofChange trimMakesWrong)

/-- 'marlinelaw13.TrimRight': WHATEVER THE INPUT: true; the input reads as it did. -/
def trimRightSpec : ChangeSpec := { name := "trimRight", fn := fun _ => fun
  | [d] => { results := [.lit (.bool true)], args := [d] }
  | _ => none }
def trimRightRow : OpenClaim := { program := "ytdlcmhkfglckfaa", sum := "c294d0bf36d27729549c945f206570592a7f2bf977dc59f0aebe91dea80faaf2", func := "marline/marlinelaw13.TrimRight", spec := "trimRight", unfollowed := true, recurses := true, apart := false }
def TrimRightSaid : Prop := trimRightRow.holds Try.pinned (OpenSpec.ofChange trimRightSpec)

/-- ITS FALSE NEIGHBOUR: 'it returns false'. Refute it at one input. -/
def trimRightWrong : ChangeSpec := { name := "trimRight", fn := fun _ => fun
  | [d] => { results := [.lit (.bool false)], args := [d] }
  | _ => none }
def TrimRightWrongFalsely : Prop := trimRightRow.holds Try.pinned (OpenSpec.ofChange trimRightWrong)

/-- 'marlinelaw13.TrimRuns': WHATEVER THE INPUT: true; the input reads as it did. -/
def trimRunsSpec : ChangeSpec := { name := "trimRuns", fn := fun _ => fun
  | [d] => { results := [.lit (.bool true)], args := [d] }
  | _ => none }
def trimRunsRow : OpenClaim := { program := "ytdlcmhkfglckfaa", sum := "c294d0bf36d27729549c945f206570592a7f2bf977dc59f0aebe91dea80faaf2", func := "marline/marlinelaw13.TrimRuns", spec := "trimRuns", unfollowed := true, recurses := true, apart := false }
def TrimRunsSaid : Prop := trimRunsRow.holds Try.pinned (OpenSpec.ofChange trimRunsSpec)

/-- ITS FALSE NEIGHBOUR: 'it returns false'. Refute it at one input. -/
def trimRunsWrong : ChangeSpec := { name := "trimRuns", fn := fun _ => fun
  | [d] => { results := [.lit (.bool false)], args := [d] }
  | _ => none }
def TrimRunsWrongFalsely : Prop := trimRunsRow.holds Try.pinned (OpenSpec.ofChange trimRunsWrong)

/-- 'marlinelaw13.TrimTwice': WHATEVER THE INPUT: true; the input reads as it did. -/
def trimTwiceSpec : ChangeSpec := { name := "trimTwice", fn := fun _ => fun
  | [d] => { results := [.lit (.bool true)], args := [d] }
  | _ => none }
def trimTwiceRow : OpenClaim := { program := "ytdlcmhkfglckfaa", sum := "c294d0bf36d27729549c945f206570592a7f2bf977dc59f0aebe91dea80faaf2", func := "marline/marlinelaw13.TrimTwice", spec := "trimTwice", unfollowed := true, recurses := true, apart := false }
def TrimTwiceSaid : Prop := trimTwiceRow.holds Try.pinned (OpenSpec.ofChange trimTwiceSpec)

/-- ITS FALSE NEIGHBOUR: 'it returns false'. Refute it at one input. -/
def trimTwiceWrong : ChangeSpec := { name := "trimTwice", fn := fun _ => fun
  | [d] => { results := [.lit (.bool false)], args := [d] }
  | _ => none }
def TrimTwiceWrongFalsely : Prop := trimTwiceRow.holds Try.pinned (OpenSpec.ofChange trimTwiceWrong)

/- THE SECOND FORM. 'bulk': how many values and letters a reading holds, each counted each time it is reached (what is shared counts as often as it is met; a slice's spare places count too). A statement '..UptoSaid' is the law's where the arguments, and the package variables that the reading takes, are together of bulk at most 1048576: NARROWER than '..Said'. Prove '..Said' where nothing that the law and all that it calls make is longer than what came in: it says more and counts as full. Else prove '..UptoSaid'. A law counts once. -/
mutual
def uptoBulk {H : Type} : DataW H → Nat
  | .lit (.string bytes) => bytes.length + 1
  | .lit _ => 1
  | .nil => 1
  | .ptr d => uptoBulk d + 1
  | .slice elems spare => uptoBulkAll elems + uptoBulkAll spare + 1
  | .agg parts => uptoBulkAll parts + 1
  | .iface _ d => uptoBulk d + 1
  | .map entries => uptoBulkEntries entries + 1
  | .held _ => 1
def uptoBulkAll {H : Type} : List (DataW H) → Nat
  | [] => 0
  | d :: r => uptoBulk d + uptoBulkAll r
def uptoBulkEntries {H : Type} : List (Lit × DataW H) → Nat
  | [] => 0
  | x :: r => uptoBulkEntry x + uptoBulkEntries r
def uptoBulkEntry {H : Type} : Lit × DataW H → Nat
  | (.string bytes, d) => bytes.length + uptoBulk d + 1
  | (_, d) => uptoBulk d + 1
 end
def uptoSmall : (H : Type) → List (DataW H) → Bool := fun _ ds => decide (uptoBulkAll ds ≤ 1048576)
def OpenSpec.upto (s : _root_.Go.ChangeSpec) : _root_.Go.OpenSpec := { _root_.Go.OpenSpec.ofChange s with cond := some uptoSmall }

/-- 'marlinelaw13.TrimKeeps', WHERE WHAT IT READS IS OF BULK AT MOST 1048576: true; the input reads as it did. -/
def trimKeepsUptoRow : OpenClaim := { program := "ytdlcmhkfglckfaa", sum := "c294d0bf36d27729549c945f206570592a7f2bf977dc59f0aebe91dea80faaf2", func := "marline/marlinelaw13.TrimKeeps", spec := "trimKeeps", unfollowed := true, recurses := true, apart := false, narrowed := true }
def TrimKeepsUptoSaid : Prop := trimKeepsUptoRow.holds Try.pinned (OpenSpec.upto trimKeepsSpec)

/-- 'marlinelaw13.TrimAll', WHERE WHAT IT READS IS OF BULK AT MOST 1048576: true; the input reads as it did. -/
def trimAllUptoRow : OpenClaim := { program := "ytdlcmhkfglckfaa", sum := "c294d0bf36d27729549c945f206570592a7f2bf977dc59f0aebe91dea80faaf2", func := "marline/marlinelaw13.TrimAll", spec := "trimAll", unfollowed := true, recurses := true, apart := false, narrowed := true }
def TrimAllUptoSaid : Prop := trimAllUptoRow.holds Try.pinned (OpenSpec.upto trimAllSpec)

/-- 'marlinelaw13.TrimMakes', WHERE WHAT IT READS IS OF BULK AT MOST 1048576: true; the input reads as it did. -/
def trimMakesUptoRow : OpenClaim := { program := "ytdlcmhkfglckfaa", sum := "c294d0bf36d27729549c945f206570592a7f2bf977dc59f0aebe91dea80faaf2", func := "marline/marlinelaw13.TrimMakes", spec := "trimMakes", unfollowed := true, recurses := true, apart := false, narrowed := true }
def TrimMakesUptoSaid : Prop := trimMakesUptoRow.holds Try.pinned (OpenSpec.upto trimMakesSpec)

/-- 'marlinelaw13.TrimRight', WHERE WHAT IT READS IS OF BULK AT MOST 1048576: true; the input reads as it did. -/
def trimRightUptoRow : OpenClaim := { program := "ytdlcmhkfglckfaa", sum := "c294d0bf36d27729549c945f206570592a7f2bf977dc59f0aebe91dea80faaf2", func := "marline/marlinelaw13.TrimRight", spec := "trimRight", unfollowed := true, recurses := true, apart := false, narrowed := true }
def TrimRightUptoSaid : Prop := trimRightUptoRow.holds Try.pinned (OpenSpec.upto trimRightSpec)

/-- 'marlinelaw13.TrimRuns', WHERE WHAT IT READS IS OF BULK AT MOST 1048576: true; the input reads as it did. -/
def trimRunsUptoRow : OpenClaim := { program := "ytdlcmhkfglckfaa", sum := "c294d0bf36d27729549c945f206570592a7f2bf977dc59f0aebe91dea80faaf2", func := "marline/marlinelaw13.TrimRuns", spec := "trimRuns", unfollowed := true, recurses := true, apart := false, narrowed := true }
def TrimRunsUptoSaid : Prop := trimRunsUptoRow.holds Try.pinned (OpenSpec.upto trimRunsSpec)

/-- 'marlinelaw13.TrimTwice', WHERE WHAT IT READS IS OF BULK AT MOST 1048576: true; the input reads as it did. -/
def trimTwiceUptoRow : OpenClaim := { program := "ytdlcmhkfglckfaa", sum := "c294d0bf36d27729549c945f206570592a7f2bf977dc59f0aebe91dea80faaf2", func := "marline/marlinelaw13.TrimTwice", spec := "trimTwice", unfollowed := true, recurses := true, apart := false, narrowed := true }
def TrimTwiceUptoSaid : Prop := trimTwiceUptoRow.holds Try.pinned (OpenSpec.upto trimTwiceSpec)

end Rows
end Go.Proofs.Ytdlcmhkfglckfaa
