/-
  Contracts of what is right (marlineref05). No condition beyond those that each theorem states.
-/
import Derived.Test.YtcmmhfknkldmcaaR5a
namespace Go.Proofs.Ytcmmhfknkldmcaa
open Go.RowKit
theorem one_22 : tyOne Try.prog 22 = true := by kernel_rfl
theorem one_9 : tyOne Try.prog 9 = true := by kernel_rfl
def inst5 (x : DInst) (n : Int) : Bool :=
  if x.op < 1 ∨ 16 < x.op ∨ below5 (uses5 x) n = false ∨ 6 < x.args.length then false
  else if (¬ ((2 ≤ x.op ∧ x.op ≤ 11) ∨ x.op = 13 ∨ x.op = 16) ∧ x.a ≠ 0) ∨ (¬ (2 ≤ x.op ∧ x.op ≤ 11) ∧ x.b ≠ 0) ∨ (x.op ≠ 1 ∧ x.k ≠ 0) ∨ (x.op ≠ 14 ∧ 0 < x.args.length) then false
  else if named5 x = true then name5 x.name else decide (x.name = ⟨#[]⟩)

def goes5 (f : DFunc) (to : Int) (args : List Int) (n : Int) : Bool :=
  if to < 0 then false else match f.blocks[to.toNat]? with
  | some b => if (args.length : Int) = b.params then below5 args n else false
  | none => false

end Go.Proofs.Ytcmmhfknkldmcaa
