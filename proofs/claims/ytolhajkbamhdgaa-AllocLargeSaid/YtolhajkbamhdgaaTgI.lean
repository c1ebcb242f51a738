/-
  The law's own functions: copied, awake.
  Conditions: as each theorem says.
-/
import Derived.Test.YtolhajkbamhdgaaTgE
import Derived.Test.YtolhajkbamhdgaaTgH
import Derived.Test.YtolhajkbamhdgaaTgR
namespace Go.Proofs.Ytolhajkbamhdgaa
set_option linter.unusedSimpArgs false
set_option linter.unusedVariables false
open Go.RowKit

/-- A literal list, as the block that holds it. -/
theorem OwnE.lit (W : World) (cs : Array Value) (l : List E) (h : cs.toList = cellsL l) (hl : l.length ≤ maxLen) (B : Nat) (hB : B ≤ W.heap.size) : OwnE (W.alloc (.cells cs 41)) B (.slice (some ⟨W.heap.size, 0, none⟩) l.length l.length) l := by
  unfold OwnE
  rw [← h]
  exact World.ownsRow_lit W cs l.length hB hl (by have := congrArg List.length h; rw [cellsL_length] at this; simpa using this)
theorem Rd.lit (W : World) (cs : Array Value) (l : List E) (n : Nat) (hn : n = W.heap.size) (h : cs.toList = cellsL l) (hl : l.length ≤ 46912496118443) : Rd (W.alloc (.cells cs 41)) (some ⟨n, 0, none⟩) l := by
  subst hn
  obtain ⟨a, c, hv, hr⟩ := (OwnE.lit W cs l h (by unfold maxLen; omega) W.heap.size (Nat.le_refl _)).rd hl
  simp only [Value.slice.injEq] at hv
  rw [hv.1]
  exact hr


end Go.Proofs.Ytolhajkbamhdgaa
