/-
  Extents as the model has them; the contracts of the small functions of package extent and of its specification.
  Conditions: as each theorem says.
-/
import Derived.Test.YtolhajkbamhdgaaRows
import Derived.Test.YtolhajkbamhdgaaTgP
import Derived.Lib.Hide
namespace Go.Proofs.Ytolhajkbamhdgaa
set_option linter.unusedSimpArgs false
set_option linter.unusedVariables false
open Go.RowKit

theorem ret_bool {a b : Bool} (h : a = true ↔ b = true) : Ending.returned (.bool a) = .returned (.bool b) := by rw [Bool.eq_iff_iff.2 h]
theorem ret_int {k : IntKind} {a b : Int} (h : a = b) : Ending.returned (.int k a) = .returned (.int k b) := by rw [h]
set_option maxHeartbeats 400000 in
theorem within_any (a n s : Int) (w : World) (ha : -9223372036854775808 ≤ a) (ha' : a ≤ 9223372036854775807) (hs0 : 0 ≤ s) (hs : s ≤ 100000) :
    Calls Try.prog 103 #[.int .i64 a, .int .i64 n, .int .i64 s] w fun e w' => e = .returned (.bool (withinB a n s)) ∧ w = w' := by
  go_enter Try.func103, Try.ntmps103
  go_wp2
  all_goals
    go_ret
    exact ⟨ret_bool (by simp only [withinB, decide_eq_true_eq, Bool.false_eq_true, false_iff]; omega), rfl⟩

set_option maxHeartbeats 400000 in
theorem proper_any (a n s : Int) (w : World) (ha : -9223372036854775808 ≤ a) (ha' : a ≤ 9223372036854775807) (hs0 : -9223372036854775808 ≤ s) (hs : s ≤ 9223372036854775807) :
    Calls Try.prog 89 #[.agg #[.int .i64 a, .int .i64 n, .int .i64 s]] w fun e w' => e = .returned (.bool (properB a n s)) ∧ Below w.heap.size w w' := by
  go_enter Try.func89, Try.ntmps89
  go_wp2_with (go_at_call 103; refine (within_any _ _ _ _ (by omega) (by omega) (by omega) (by omega)).mono ?_; rintro e w' ⟨rfl, rfl⟩)
  all_goals
    go_ret
    refine ⟨ret_bool ?_, (Below.refl _ _).onAlloc _⟩
    first | (simp [properB, *]; done) | (simp only [properB, Bool.false_eq_true, false_iff, Bool.and_eq_true, decide_eq_true_eq]; omega)


/-- The element k of a list, as cells behind ⟨b, o⟩. -/
structure At (w : World) (b o : Nat) (k : Nat) (x : E) : Prop where
  a : w.cell? ⟨b, o + k * 3, none⟩ = some (.int .i64 x.a)
  n : w.cell? ⟨b, o + k * 3 + 1, none⟩ = some (.int .i64 x.n)
  s : w.cell? ⟨b, o + k * 3 + 2, none⟩ = some (.int .i64 x.s)
/-- The slice 'a, length' reads as the list l. -/
def Rd (w : World) (a : Option Addr) (l : List E) : Prop :=
  l.length ≤ 46912496118443 ∧ (l = [] ∨ ∃ b o, a = some ⟨b, o, none⟩ ∧ ∀ k x, l[k]? = some x → At w b o k x)
theorem proper_is (a n s : Int) (w : World) (r : Bool) (hr : properB a n s = r) (ha : -9223372036854775808 ≤ a) (ha' : a ≤ 9223372036854775807) (hs0 : -9223372036854775808 ≤ s) (hs : s ≤ 9223372036854775807) :
    Calls Try.prog 89 #[.agg #[.int .i64 a, .int .i64 n, .int .i64 s]] w fun e w' => e = .returned (.bool r) ∧ Below w.heap.size w w' := by
  subst hr
  exact proper_any a n s w ha ha' hs0 hs

theorem At.keep {w w' : World} (h : Below w.heap.size w w') {b o k : Nat} {x : E} (ha : At w b o k x) : At w' b o k x := ⟨h.keep ha.a, h.keep ha.n, h.keep ha.s⟩
theorem Rd.keep {w w' : World} (h : Below w.heap.size w w') {a : Option Addr} {l : List E} (hr : Rd w a l) : Rd w' a l :=
  ⟨hr.1, hr.2.imp id fun ⟨b, o, ha, hat⟩ => ⟨b, o, ha, fun k x hk => (hat k x hk).keep h⟩⟩
theorem Rd.at {w : World} {a : Option Addr} {l : List E} (hr : Rd w a l) (h : 0 < l.length) : ∃ b o, a = some ⟨b, o, none⟩ ∧ ∀ k x, l[k]? = some x → At w b o k x :=
  hr.2.resolve_left (by intro e; rw [e] at h; simp at h)


end Go.Proofs.Ytolhajkbamhdgaa
