/-
  The specification's One, Valid, Range, part, parts, Join, Cut, Same, Blocks, Find.
  Conditions: as each theorem says.
-/
import Derived.Test.YtolhajkbamhdgaaTgD
namespace Go.Proofs.Ytolhajkbamhdgaa
set_option linter.unusedSimpArgs false
set_option linter.unusedVariables false
open Go.RowKit

theorem newE (W : World) (n : Nat) (hn : n = W.heap.size) (x : E) (t : TypeId) : ∀ j u, (E.cells x)[j]? = some u → (W.alloc (.cells #[.int .i64 x.a, .int .i64 x.n, .int .i64 x.s] t)).cell? ((⟨n, 0, none⟩ : Addr).add j) = some u := by
  subst hn
  intro j u hj
  match j, hj with
  | 0, hj => simp [E.cells] at hj; subst hj; simp [Addr.add]
  | 1, hj => simp [E.cells] at hj; subst hj; simp [Addr.add]
  | 2, hj => simp [E.cells] at hj; subst hj; simp [Addr.add]
theorem cellsE_one (x : E) : ∀ u ∈ E.cells x, u.oneCell' = true := by
  intro u hu
  simp [E.cells] at hu
  rcases hu with rfl | rfl | rfl <;> rfl

set_option maxHeartbeats 1000000 in
theorem one_any (a n s : Int) (w : World) :
    Calls Try.prog 62 #[.agg #[.int .i64 a, .int .i64 n, .int .i64 s]] w fun e w' => e = .returned (.bool (properB a n s)) ∧ Below w.heap.size w w' := by
  go_enter Try.func62, Try.ntmps62
  go_wp2
  all_goals
    go_ret
    exact ⟨ret_bool (by rw [properB_iff]; simp only [decide_eq_true_eq, Bool.false_eq_true, false_iff]; omega), (Below.refl _ _).onAlloc _⟩
theorem one_is (a n s : Int) (r : Bool) (w : World) (h : properB a n s = r) :
    Calls Try.prog 62 #[.agg #[.int .i64 a, .int .i64 n, .int .i64 s]] w fun e w' => e = .returned (.bool r) ∧ Below w.heap.size w w' := by
  subst h
  exact one_any a n s w





end Go.Proofs.Ytolhajkbamhdgaa
