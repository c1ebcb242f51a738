/-
  extent.Put.
  Conditions: as each theorem says.
-/
import Derived.Test.YtolhajkbamhdgaaTgM
namespace Go.Proofs.Ytolhajkbamhdgaa
set_option linter.unusedSimpArgs false
set_option linter.unusedVariables false
open Go.RowKit


theorem sepSym {v v' : Value} (h : v.ownBlock = none ∨ v.ownBlock ≠ v'.ownBlock) : v'.ownBlock = none ∨ v'.ownBlock ≠ v.ownBlock := by
  rcases h with h | h
  · cases hv : v'.ownBlock with
    | none => exact .inl rfl
    | some j => exact .inr (by rw [h]; simp)
  · exact .inr (Ne.symm h)


end Go.Proofs.Ytolhajkbamhdgaa
