/-
  Contracts of what is right (marlineref05). No condition beyond those that each theorem states.
-/
import Derived.Test.YtcmmhfknkldmcaaR5b
namespace Go.Proofs.Ytcmmhfknkldmcaa
open Go.RowKit
def allFrom : Int → List DInst → Bool
  | _, [] => true
  | p, x :: r => inst5 x p && allFrom (p + 1) r
def term5 (f : DFunc) (t : DTerm) (n : Int) : Bool :=
  if t.kind = 1 then goes5 f t.to t.args n && decide (t.a = 0) && decide (t.els = 0) && decide (t.elses.length = 0)
  else if t.kind = 2 then (decide (0 ≤ t.a) && decide (t.a < n)) && goes5 f t.to t.args n && goes5 f t.els t.elses n
  else decide (t.kind = 3) && (decide (0 ≤ t.a) && decide (t.a < n)) && decide (t.to = 0) && decide (t.args.length = 0) && decide (t.els = 0) && decide (t.elses.length = 0)
def block5 (f : DFunc) (b : DBlock) : Bool :=
  if b.params < 0 ∨ 6 < b.params ∨ 32 < b.ins.length then false
  else if allFrom b.params b.ins = false then false else term5 f b.fin (b.params + b.ins.length)

end Go.Proofs.Ytcmmhfknkldmcaa
