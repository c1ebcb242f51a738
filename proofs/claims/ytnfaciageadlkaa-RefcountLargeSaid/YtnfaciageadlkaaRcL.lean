/-
  The walks of the laws RefcountScript, RefcountNew.
  Conditions: none beyond that the arguments can be read.
-/
import Derived.Test.YtnfaciageadlkaaRcK
namespace Go.Proofs.Ytnfaciageadlkaa
set_option linter.unusedSimpArgs false
set_option linter.unusedVariables false
set_option maxRecDepth 100000
open Go.RowKit

end Go.Proofs.Ytnfaciageadlkaa
