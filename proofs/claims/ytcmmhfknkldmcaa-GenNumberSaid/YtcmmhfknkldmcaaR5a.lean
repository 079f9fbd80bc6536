/-
  Contracts of what is right (marlineref05). No condition beyond those that each theorem states.
-/
import Derived.Test.YtcmmhfknkldmcaaA11
namespace Go.Proofs.Ytcmmhfknkldmcaa
open Go.RowKit
theorem isz_3 : (Try.prog.info? 3).map (·.size) = some 1 := by kernel_rfl
theorem one_3 : tyOne Try.prog 3 = true := by kernel_rfl
theorem zer_3 : tyZero Try.prog 3 = some [.int .i64 0] := by kernel_rfl
def name5 (s : ByteArray) : Bool := decide (1 ≤ s.size) && decide (s.size ≤ 16)
def named5 (x : DInst) : Bool := decide (x.op = 12) || decide (x.op = 13) || decide (x.op = 14)
def uses5 (x : DInst) : List Int := if 2 ≤ x.op ∧ x.op ≤ 11 then [x.a, x.b] else if x.op = 13 ∨ x.op = 16 then [x.a] else if x.op = 14 then x.args else []
def below5 (l : List Int) (n : Int) : Bool := l.all fun v => decide (0 ≤ v) && decide (v < n)

end Go.Proofs.Ytcmmhfknkldmcaa
