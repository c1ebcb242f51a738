/-
  The specification's Join, Cut, Same, Blocks, Find.
  Conditions: as each theorem says.
-/
import Derived.Test.YtolhajkbamhdgaaTgF
namespace Go.Proofs.Ytolhajkbamhdgaa
set_option linter.unusedSimpArgs false
set_option linter.unusedVariables false
open Go.RowKit


end Go.Proofs.Ytolhajkbamhdgaa
