/-
  extent.Join, extent.Blocks, extent.Find, extent.part, extent.Cut.
  Conditions: as each theorem says.
-/
import Derived.Test.YtolhajkbamhdgaaTgC
import Derived.Test.YtolhajkbamhdgaaTgQ
namespace Go.Proofs.Ytolhajkbamhdgaa
set_option linter.unusedSimpArgs false
set_option linter.unusedVariables false
open Go.RowKit


theorem within_is (a n s : Int) (w : World) (r : Bool) (hr : withinB a n s = r) (ha : -9223372036854775808 ≤ a) (ha' : a ≤ 9223372036854775807) (hs0 : 0 ≤ s) (hs : s ≤ 100000) :
    Calls Try.prog 103 #[.int .i64 a, .int .i64 n, .int .i64 s] w fun e w' => e = .returned (.bool r) ∧ w = w' := by
  subst hr
  exact within_any a n s w ha ha' hs0 hs
/-- A list and its error. -/
def Listed (w : World) (l : List E) (e : Ending) (w' : World) : Prop := ∃ v, e = .returned (.tuple #[v, .int .i64 0]) ∧ OwnE w' w.heap.size v l ∧ Below w.heap.size w w'
def Refused (w : World) (e : Ending) (w' : World) : Prop := e = .returned (.tuple #[.slice none 0 0, .int .i64 1]) ∧ Below w.heap.size w w'






end Go.Proofs.Ytolhajkbamhdgaa
