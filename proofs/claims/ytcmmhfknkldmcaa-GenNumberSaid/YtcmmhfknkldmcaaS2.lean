/-
  Contracts of layer 16 (slot). No condition beyond those that each theorem states.
-/
import Derived.Test.YtcmmhfknkldmcaaS1
namespace Go.Proofs.Ytcmmhfknkldmcaa
open Go.RowKit
theorem siz_3 : tySize Try.prog 3 1 = true := by kernel_rfl
def use16 (us : List Int) (step : Int) (l : List Int) : List Int := l.foldl (fun u v => u.set v.toNat step) us
def ini16 (p : Int) (v : Nat) : Int := if (-1 : Int) > (v : Int) - p then -1 else (v : Int) - p
def useIns16 : Nat → List Int → List DInst → List Int
  | _, us, [] => us
  | i, us, x :: r => useIns16 (i + 1) (use16 us i (uses5 x)) r
def base16 (b : DBlock) : List Int := (List.range (b.params.toNat + b.ins.length)).map (ini16 b.params)
def last16 (b : DBlock) : List Int :=
  let u := use16 (use16 (useIns16 0 (base16 b) b.ins) b.ins.length b.fin.args) b.ins.length b.fin.elses
  if b.fin.kind = 1 then u else use16 u b.ins.length [b.fin.a]
structure Ok16 (b : DBlock) : Prop where
  p0 : 0 ≤ b.params
  p1 : b.params ≤ 1000
  n : b.ins.length ≤ 1000
  la : b.fin.args.length ≤ 1000
  le : b.fin.elses.length ≤ 1000
  args : ∀ x ∈ b.ins, x.args.length ≤ 1000
  uses : ∀ x ∈ b.ins, ∀ v ∈ uses5 x, 0 ≤ v ∧ v < ((b.params.toNat + b.ins.length : Nat) : Int)
  ta : ∀ v ∈ b.fin.args, 0 ≤ v ∧ v < ((b.params.toNat + b.ins.length : Nat) : Int)
  te : ∀ v ∈ b.fin.elses, 0 ≤ v ∧ v < ((b.params.toNat + b.ins.length : Nat) : Int)
  tv : b.fin.kind ≠ 1 → 0 ≤ b.fin.a ∧ b.fin.a < ((b.params.toNat + b.ins.length : Nat) : Int)
end Go.Proofs.Ytcmmhfknkldmcaa
