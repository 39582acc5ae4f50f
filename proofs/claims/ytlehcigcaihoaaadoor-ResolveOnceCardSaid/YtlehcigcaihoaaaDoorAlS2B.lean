/-
  SPECS: what is wrong with a leaf, and a node (the document's).
-/
import Derived.Test.YtlehcigcaihoaaaDoorAlS1
import Derived.Test.YtlehcigcaihoaaaDoorAlS2A
set_option linter.unusedSimpArgs false
set_option linter.unusedVariables false
namespace Go.Proofs.YtlehcigcaihoaaaDoor.Al
open Go

end Go.Proofs.YtlehcigcaihoaaaDoor.Al
