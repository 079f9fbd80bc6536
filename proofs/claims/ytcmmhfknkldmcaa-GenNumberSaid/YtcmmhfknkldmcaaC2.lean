/-
  DERIVED: THE SHELF's CONTRACTS AT THIS DUMP, IN PLAIN WORDS (tools/lay-plain.mjs out of 'YtcmmhfknkldmcaaC0.lean', which tools/lay-shelf.mjs wrote): THE SAME DECLARATIONS UNDER THE SAME NAMES: 'import', 'namespace', 'open', 'def', 'theorem' AND NOTHING ELSE: no command of the shelf's: FOR A HAND-IN. Each laying: the table of numbers ('.._ren') and one theorem, a field a fact of the dump's own or the kernel's comparison; each contract: ONE APPLICATION.
-/
import Derived.Shelf.SlIterI.Collect
import Derived.Ground.GgzProg
import Derived.Shelf.SlGeneric
import Derived.Test.YtcmmhfknkldmcaaProg
import Derived.Test.YtcmmhfknkldmcaaS2
namespace Go.Proofs
open Go.Shelf
end Go.Proofs

namespace Go.Proofs.Ytcmmhfknkldmcaa
open Go.RowKit Go.Maps Go.Shelf Go.WideElems
end Go.Proofs.Ytcmmhfknkldmcaa
