/-
  package alloc: New, Slots, Free, Mark.
  Conditions: as each theorem says.
-/
import Derived.Test.YtolhajkbamhdgaaAlC
namespace Go.Proofs.Ytolhajkbamhdgaa
set_option linter.unusedSimpArgs false
set_option linter.unusedVariables false
open Go.RowKit

set_option maxRecDepth 100000 in
set_option maxHeartbeats 1000000 in
theorem aslots_any (N : Int) (a : Option Addr) (n c : Nat) (w : World) :
    Calls Try.prog 39 #[.agg #[.int .i64 N, .slice a n c]] w fun e w' => e = .returned (.int .i64 N) ∧ Below w.heap.size w w' := by
  go_enter Try.func39, Try.ntmps39
  go_wp2
  go_ret
  exact ⟨rfl, (Below.refl _ _).onAlloc _⟩
set_option maxRecDepth 100000 in
set_option maxHeartbeats 1000000 in
theorem afree_any (N : Int) (R : List E) (a : Option Addr) (c : Nat) (w : World) (hr : Rd w a R) (hc : Canon R) :
    Calls Try.prog 37 #[.agg #[.int .i64 N, .slice a R.length c]] w fun e w' => e = .returned (.int .i64 (lenL R)) ∧ Below w.heap.size w w' := by
  have hs := canon_short hc
  have HM : Hid (∀ x ∈ R, 0 ≤ x.n ∧ x.n ≤ 65536) := Lib.hid fun x hx => by
    have := (okB_iff x).1 (hc.1 x hx).2
    omega
  go_enter Try.func37, Try.ntmps37
  go_wp2_with fail
  refine (asize_any R a c _ (hr.keep ((Below.refl _ _).onAlloc _)) HM.out (by omega)).mono ?_
  rintro e w1 ⟨rfl, hb1⟩
  go_wp2_with fail
  go_ret
  exact ⟨rfl, ((Below.refl _ _).onAlloc _).on hb1⟩
set_option maxRecDepth 100000 in
set_option maxHeartbeats 1000000 in
theorem anew_no (n : Int) (w : World) (h : n < 0 ∨ 65536 < n) :
    Calls Try.prog 34 #[.int .i64 n] w fun e w' => e = .returned (.tuple #[.agg #[.int .i64 0, .slice none 0 0], .int .i64 1]) ∧ Below w.heap.size w w' := by
  rcases h with h | h
  all_goals
    go_enter Try.func34, Try.ntmps34
    go_wp2
    refine bodyPost_ret (v := .tuple #[.agg #[.int .i64 0, .slice none 0 0], .int .i64 1]) ?_ rfl ⟨rfl, ?_⟩
    · simp [results, Try.results34, go_sem]
    · (repeat (first | exact Below.refl _ _ | assumption | refine Below.onNext ?_ _ | refine Below.onAlloc ?_ _ | refine Below.setCell ?_ (by simp) _ | refine Below.drew ?_))
set_option maxRecDepth 100000 in
set_option maxHeartbeats 1000000 in
theorem anew_zero (w : World) :
    Calls Try.prog 34 #[.int .i64 0] w fun e w' => e = .returned (.tuple #[.agg #[.int .i64 0, .slice none 0 0], .int .i64 0]) ∧ Below w.heap.size w w' := by
  go_enter Try.func34, Try.ntmps34
  go_wp2
  refine bodyPost_ret (v := .tuple #[.agg #[.int .i64 0, .slice none 0 0], .int .i64 0]) ?_ rfl ⟨rfl, ?_⟩
  · simp [results, Try.results34, go_sem]
  · (repeat (first | exact Below.refl _ _ | assumption | refine Below.onNext ?_ _ | refine Below.onAlloc ?_ _ | refine Below.setCell ?_ (by simp) _ | refine Below.drew ?_))
set_option maxRecDepth 100000 in
set_option maxHeartbeats 1000000 in
theorem anew_yes (n : Nat) (w : World) (h0 : 0 < n) (hn : n ≤ 65536) :
    Calls Try.prog 34 #[.int .i64 n] w fun e w' => ∃ v, e = .returned (.tuple #[.agg #[.int .i64 n, v], .int .i64 0]) ∧ OwnE w' w.heap.size v [⟨0, n, 0⟩] ∧ Below w.heap.size w w' := by
  have d0 : ((n : Int) == 0) = false := by simp; omega
  go_enter Try.func34, Try.ntmps34
  go_wp2
  refine bodyPost_ret (v := .tuple #[.agg #[.int .i64 n, .slice (some ⟨w.heap.size + 1, 0, none⟩) 1 1], .int .i64 0]) ?_ rfl ⟨_, rfl, ?_, ?_⟩
  · simp [results, Try.results34, go_sem]
  · have h := OwnE.lit (w.alloc (.cells #[.int .i64 n, .slice (some ⟨w.heap.size + 1, 0, none⟩) 1 1] 58)) #[.int .i64 0, .int .i64 n, .int .i64 0] [⟨0, n, 0⟩] rfl (by simp [maxLen]) w.heap.size (by simp)
    simpa using h
  · (repeat (first | exact Below.refl _ _ | assumption | refine Below.onNext ?_ _ | refine Below.onAlloc ?_ _ | refine Below.setCell ?_ (by simp) _ | refine Below.drew ?_))
end Go.Proofs.Ytolhajkbamhdgaa
