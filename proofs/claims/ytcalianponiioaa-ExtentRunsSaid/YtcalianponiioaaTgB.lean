/-
  Extents as the model has them; the contracts of the small functions of package extent and of its specification.
  Conditions: as each theorem says.
-/
import Derived.Test.YtcalianponiioaaRows
import Derived.Test.YtcalianponiioaaTgP
import Derived.Lib.Hide
namespace Go.Proofs.Ytcalianponiioaa
set_option linter.unusedSimpArgs false
set_option linter.unusedVariables false
open Go.RowKit

theorem ret_bool {a b : Bool} (h : a = true ↔ b = true) : Ending.returned (.bool a) = .returned (.bool b) := by rw [Bool.eq_iff_iff.2 h]
theorem ret_int {k : IntKind} {a b : Int} (h : a = b) : Ending.returned (.int k a) = .returned (.int k b) := by rw [h]
set_option maxHeartbeats 400000 in
theorem within_any (a n s : Int) (w : World) (ha : -9223372036854775808 ≤ a) (ha' : a ≤ 9223372036854775807) (hs0 : 0 ≤ s) (hs : s ≤ 100000) :
    Calls Try.prog 29 #[.int .i64 a, .int .i64 n, .int .i64 s] w fun e w' => e = .returned (.bool (withinB a n s)) ∧ w = w' := by
  go_enter Try.func29, Try.ntmps29
  go_wp2
  all_goals
    go_ret
    exact ⟨ret_bool (by simp only [withinB, decide_eq_true_eq, Bool.false_eq_true, false_iff]; omega), rfl⟩

set_option maxHeartbeats 400000 in
theorem proper_any (a n s : Int) (w : World) (ha : -9223372036854775808 ≤ a) (ha' : a ≤ 9223372036854775807) (hs0 : -9223372036854775808 ≤ s) (hs : s ≤ 9223372036854775807) :
    Calls Try.prog 34 #[.agg #[.int .i64 a, .int .i64 n, .int .i64 s]] w fun e w' => e = .returned (.bool (properB a n s)) ∧ Below w.heap.size w w' := by
  go_enter Try.func34, Try.ntmps34
  go_wp2_with (go_at_call 29; refine (within_any _ _ _ _ (by omega) (by omega) (by omega) (by omega)).mono ?_; rintro e w' ⟨rfl, rfl⟩)
  all_goals
    go_ret
    refine ⟨ret_bool ?_, (Below.refl _ _).onAlloc _⟩
    first | (simp [properB, *]; done) | (simp only [properB, Bool.false_eq_true, false_iff, Bool.and_eq_true, decide_eq_true_eq]; omega)

set_option maxHeartbeats 400000 in
theorem end_any (a n s : Int) (w : World) (h0 : -9223372036854775808 ≤ a + n) (h1 : a + n ≤ 9223372036854775807) :
    Calls Try.prog 35 #[.agg #[.int .i64 a, .int .i64 n, .int .i64 s]] w fun e w' => e = .returned (.int .i64 (a + n)) ∧ Below w.heap.size w w' := by
  go_enter Try.func35, Try.ntmps35
  go_wp2
  go_ret
  exact ⟨rfl, (Below.refl _ _).onAlloc _⟩

/-- The element k of a list, as cells behind ⟨b, o⟩. -/
structure At (w : World) (b o : Nat) (k : Nat) (x : E) : Prop where
  a : w.cell? ⟨b, o + k * 3, none⟩ = some (.int .i64 x.a)
  n : w.cell? ⟨b, o + k * 3 + 1, none⟩ = some (.int .i64 x.n)
  s : w.cell? ⟨b, o + k * 3 + 2, none⟩ = some (.int .i64 x.s)
/-- The slice 'a, length' reads as the list l. -/
def Rd (w : World) (a : Option Addr) (l : List E) : Prop :=
  l.length ≤ 46912496118443 ∧ (l = [] ∨ ∃ b o, a = some ⟨b, o, none⟩ ∧ ∀ k x, l[k]? = some x → At w b o k x)
theorem proper_is (a n s : Int) (w : World) (r : Bool) (hr : properB a n s = r) (ha : -9223372036854775808 ≤ a) (ha' : a ≤ 9223372036854775807) (hs0 : -9223372036854775808 ≤ s) (hs : s ≤ 9223372036854775807) :
    Calls Try.prog 34 #[.agg #[.int .i64 a, .int .i64 n, .int .i64 s]] w fun e w' => e = .returned (.bool r) ∧ Below w.heap.size w w' := by
  subst hr
  exact proper_any a n s w ha ha' hs0 hs

theorem At.keep {w w' : World} (h : Below w.heap.size w w') {b o k : Nat} {x : E} (ha : At w b o k x) : At w' b o k x := ⟨h.keep ha.a, h.keep ha.n, h.keep ha.s⟩
theorem Rd.keep {w w' : World} (h : Below w.heap.size w w') {a : Option Addr} {l : List E} (hr : Rd w a l) : Rd w' a l :=
  ⟨hr.1, hr.2.imp id fun ⟨b, o, ha, hat⟩ => ⟨b, o, ha, fun k x hk => (hat k x hk).keep h⟩⟩
theorem Rd.at {w : World} {a : Option Addr} {l : List E} (hr : Rd w a l) (h : 0 < l.length) : ∃ b o, a = some ⟨b, o, none⟩ ∧ ∀ k x, l[k]? = some x → At w b o k x :=
  hr.2.resolve_left (by intro e; rw [e] at h; simp at h)

set_option maxHeartbeats 400000 in
theorem valid_any (l : List E) (a : Option Addr) (c : Nat) (w : World) (hr : Rd w a l) (hw : wfL l) :
    Calls Try.prog 19 #[.slice a l.length c] w fun e w' => e = .returned (.bool (validB l)) ∧ Below w.heap.size w w' := by
  have hlen := hr.1
  go_enter Try.func19, Try.ntmps19
  go_wp2
  go_loopw [7] (fun i wr => ∃ k : Nat, k ≤ l.length ∧ i = .int .i64 k ∧ validB (l.take k) = true ∧ Below w.heap.size w wr) (fun i _ => l.length - (intOf i).toNat)
  case atStart => exact ⟨0, Nat.zero_le _, rfl, rfl, Below.refl _ _⟩
  case round =>
    obtain ⟨k, hk, rfl, hv, hB⟩ := hrel
    rename_i W
    by_cases hlt : k < l.length
    · obtain ⟨b, o, rfl, hat⟩ := (hr.keep hB).at (by omega)
      obtain ⟨h1, h2, h3⟩ := hat k _ (List.getElem?_eq_getElem hlt)
      obtain ⟨⟨b1, b2⟩, ⟨b3, b4⟩, ⟨b5, b6⟩⟩ := hw _ (List.getElem_mem hlt)
      have HH := Lib.hid hv
      clear hr
      by_cases h0 : k ≤ 0
      · have HV := Lib.hid (validB_zero' l k h0 hlt)
        have hd : decide (0 < k) = false := by simp; omega
        generalize l[k] = x at *
        clear hat hv
        cases hp : properB x.a x.n x.s
        all_goals
          have HP := Lib.hid hp
          clear hp
          go_wp2_with fail
          refine wp_region_next (by kernel_rfl) (by kernel_rfl) ?_
          repeat (go_big_quiet_step ((go_at_call 34; exact Calls.next_of (proper_is _ _ _ _ _ HP.out (by omega) (by omega) (by omega) (by omega)))))
          refine wpQuiet_nil ?_
          intro _ hw'
          obtain ⟨nq, hw''⟩ := hw'
          subst hw''
          go_wp2_with fail
        · go_ret
          refine ⟨ret_bool ?_, (hB.onAlloc _).onNext _⟩
          have := validB_false l (k + 1) (by rw [HV.out]; exact HP.out)
          simp [this]
        · go_roundw
          case rel => exact ⟨k + 1, by omega, by go_num, by rw [HV.out]; exact HP.out, (hB.onAlloc _).onNext _⟩
          case measure => simp [intOf]; omega
      · obtain ⟨g1, g2, g3⟩ := hat (k - 1) _ (List.getElem?_eq_getElem (by omega))
        obtain ⟨c1, c2, c3, c4, c5⟩ := (okB_iff _).1 (take_ok hv (show k - 1 < k by omega) (by omega))
        have HV := Lib.hid (validB_succ l k hlt (by omega))
        have hd : decide (0 < k) = true := by simp; omega
        generalize l[k] = x at *
        generalize l[k - 1] = y at *
        clear hat hv
        cases hp : properB x.a x.n x.s
        all_goals
          have HP := Lib.hid hp
          clear hp
          go_wp2_with fail
          refine wp_region_next (by kernel_rfl) (by kernel_rfl) ?_
          repeat (go_big_quiet_step (first | (go_at_call 34; exact Calls.next_of (proper_is _ _ _ _ _ HP.out (by omega) (by omega) (by omega) (by omega))) | (go_at_call 35; exact Calls.next_of (end_any _ _ _ _ (by omega) (by omega)))))
          refine wpQuiet_nil ?_
          intro _ hw'
          obtain ⟨nq, hw''⟩ := hw'
          subst hw''
          go_wp2_with fail
        · go_ret
          refine ⟨ret_bool ?_, (hB.onAlloc _).onNext _⟩
          have := validB_false l (k + 1) (by rw [HV.out]; simp [okB, HP.out])
          simp [this]
        · have hx : x.a < y.a + y.n := by assumption
          go_ret
          refine ⟨ret_bool ?_, (hB.onAlloc _).onNext _⟩
          have := validB_false l (k + 1) (by rw [HV.out]; simp [okB]; omega)
          simp [this]
        · have hx : y.a + y.n ≤ x.a := by assumption
          go_roundw
          case rel => exact ⟨k + 1, by omega, by go_num, by rw [HV.out, HH.out]; simp [okB, HP.out, hx], (hB.onAlloc _).onNext _⟩
          case measure => simp [intOf]; omega
    · have HV := Lib.hid hv
      clear hv
      go_wp2
      go_ret
      refine ⟨ret_bool ?_, hB⟩
      have := HV.out
      rw [List.take_of_length_le (by omega)] at this
      simp [this]

end Go.Proofs.Ytcalianponiioaa
