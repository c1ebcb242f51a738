/-
  The specification's Runs.
  Conditions: as each theorem says.
-/
import Derived.Test.YtnfaciageadlkaaGC
import Derived.Test.YtnfaciageadlkaaGA
namespace Go.Proofs.Ytnfaciageadlkaa
set_option linter.unusedSimpArgs false
set_option linter.unusedVariables false
set_option maxRecDepth 100000
open Go.RowKit

theorem below_bounds {l R : List E} {e next : Int} {found : Bool} (h : Below_ l R e) (hl : ∀ x ∈ l, okB x = true → True) (hf : Least l e next found) (h0 : found = false → next = 0) : 0 ≤ next ∧ next ≤ 65536 := by
  cases found with
  | false => have := h0 rfl; omega
  | true =>
    have := least_bounds h hf
    have := h.e0
    omega
theorem least_upper {l : List E} {e next : Int} (he : 0 ≤ e ∧ e ≤ 65536) (hf : Least l e next true) : 0 ≤ next ∧ next ≤ 65536 := by
  rcases hf with ⟨hf, _⟩ | ⟨_, ⟨x, hx, h1, h2, h3⟩, _⟩
  · cases hf
  · have := (okB_iff x).1 h1
    omega
theorem greatest_upper {l : List E} {next t : Int} (he : 0 ≤ next ∧ next ≤ 65536) (hg : Greatest l next t) : 0 ≤ t ∧ t ≤ 65536 := by
  obtain ⟨g1, g2 | ⟨x, hx, h1, h2, h3⟩, _⟩ := hg
  · omega
  · have := (okB_iff x).1 h1
    omega
theorem cellsL_setn (C : List E) (y : E) (m : Int) : (cellsL (C ++ [y])).set (C.length * 3 + 1) (.int .i64 m) = cellsL (C ++ [⟨y.a, m, y.s⟩]) := by
  have hk : (cellsL C).length = C.length * 3 := cellsL_length C
  rw [cellsL_append, cellsL_append, List.set_append_right _ _ (by rw [hk]; omega), hk, show C.length * 3 + 1 - C.length * 3 = 1 by omega]
  rfl
theorem OwnE.setn {w : World} {B g c n : Nat} {C : List E} {y : E} (hn : n = C.length + 1) (h : OwnE w B (.slice (some ⟨g, 0, none⟩) n c) (C ++ [y])) (m : Int) :
    OwnE (w.setCell ⟨g, C.length * 3 + 1, none⟩ (.int .i64 m)) B (.slice (some ⟨g, 0, none⟩) n c) (C ++ [⟨y.a, m, y.s⟩]) ∧ w.grownBy (w.setCell ⟨g, C.length * 3 + 1, none⟩ (.int .i64 m)) (some g) := by
  subst hn
  unfold OwnE at h ⊢
  rw [show (C ++ [y]).length = C.length + 1 by simp] at h
  have hst := World.ownsRow.stored h (C.length * 3 + 1) (.int .i64 m)
  rw [cellsL_setn] at hst
  refine ⟨?_, hst.2⟩
  rw [show (C ++ [(⟨y.a, m, y.s⟩ : E)]).length = C.length + 1 by simp]
  exact hst.1

end Go.Proofs.Ytnfaciageadlkaa
