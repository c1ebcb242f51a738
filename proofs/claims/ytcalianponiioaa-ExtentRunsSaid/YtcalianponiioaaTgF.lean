/-
  The specification's One, Valid, Range, part, parts, Join, Cut, Same, Blocks, Find.
  Conditions: as each theorem says.
-/
import Derived.Test.YtcalianponiioaaTgD
namespace Go.Proofs.Ytcalianponiioaa
set_option linter.unusedSimpArgs false
set_option linter.unusedVariables false
open Go.RowKit

theorem newE (W : World) (n : Nat) (hn : n = W.heap.size) (x : E) (t : TypeId) : ∀ j u, (E.cells x)[j]? = some u → (W.alloc (.cells #[.int .i64 x.a, .int .i64 x.n, .int .i64 x.s] t)).cell? ((⟨n, 0, none⟩ : Addr).add j) = some u := by
  subst hn
  intro j u hj
  match j, hj with
  | 0, hj => simp [E.cells] at hj; subst hj; simp [Addr.add]
  | 1, hj => simp [E.cells] at hj; subst hj; simp [Addr.add]
  | 2, hj => simp [E.cells] at hj; subst hj; simp [Addr.add]
theorem cellsE_one (x : E) : ∀ u ∈ E.cells x, u.oneCell' = true := by
  intro u hu
  simp [E.cells] at hu
  rcases hu with rfl | rfl | rfl <;> rfl

set_option maxHeartbeats 1000000 in
theorem one_any (a n s : Int) (w : World) :
    Calls Try.prog 26 #[.agg #[.int .i64 a, .int .i64 n, .int .i64 s]] w fun e w' => e = .returned (.bool (properB a n s)) ∧ Below w.heap.size w w' := by
  go_enter Try.func26, Try.ntmps26
  go_wp2
  all_goals
    go_ret
    exact ⟨ret_bool (by rw [properB_iff]; simp only [decide_eq_true_eq, Bool.false_eq_true, false_iff]; omega), (Below.refl _ _).onAlloc _⟩
theorem one_is (a n s : Int) (r : Bool) (w : World) (h : properB a n s = r) :
    Calls Try.prog 26 #[.agg #[.int .i64 a, .int .i64 n, .int .i64 s]] w fun e w' => e = .returned (.bool r) ∧ Below w.heap.size w w' := by
  subst h
  exact one_any a n s w

set_option maxHeartbeats 400000 in
theorem range_any (p n : Int) (w : World) :
    Calls Try.prog 32 #[.int .i64 p, .int .i64 n] w fun e w' => e = .returned (.bool (withinB p n 65536)) ∧ w = w' := by
  go_enter Try.func32, Try.ntmps32
  go_wp2
  all_goals
    go_ret
    exact ⟨ret_bool (by simp only [withinB, decide_eq_true_eq, Bool.false_eq_true, false_iff]; omega), rfl⟩
theorem range_is (p n : Int) (r : Bool) (w : World) (h : withinB p n 65536 = r) :
    Calls Try.prog 32 #[.int .i64 p, .int .i64 n] w fun e w' => e = .returned (.bool r) ∧ w = w' := by
  subst h
  exact range_any p n w

set_option maxHeartbeats 400000 in
theorem rvalid_any (l : List E) (a : Option Addr) (c : Nat) (w : World) (hr : Rd w a l) (hw : wfL l) :
    Calls Try.prog 16 #[.slice a l.length c] w fun e w' => e = .returned (.bool (validB l)) ∧ Below w.heap.size w w' := by
  have hlen := hr.1
  go_enter Try.func16, Try.ntmps16
  go_wp2
  go_loopw [3] (fun i wr => ∃ k : Nat, k ≤ l.length ∧ i = .int .i64 k ∧ validB (l.take k) = true ∧ Below w.heap.size w wr) (fun i _ => l.length - (intOf i).toNat)
  case atStart => exact ⟨0, Nat.zero_le _, rfl, rfl, Below.refl _ _⟩
  case round =>
    obtain ⟨k, hk, rfl, hv, hB⟩ := hrel
    by_cases hlt : k < l.length
    · obtain ⟨b, o, rfl, hat⟩ := (hr.keep hB).at (by omega)
      obtain ⟨h1, h2, h3⟩ := hat k _ (List.getElem?_eq_getElem hlt)
      have HH := Lib.hid hv
      clear hr
      by_cases h0 : k ≤ 0
      · have HV := Lib.hid (validB_zero' l k h0 hlt)
        have hd : decide (0 < k) = false := by simp; omega
        generalize l[k] = x at *
        clear hat hv
        cases hp : properB x.a x.n x.s
        all_goals
          have HP := Lib.hid hp
          clear hp
          go_wp2_with fail
          refine wp_region_next (by kernel_rfl) (by kernel_rfl) ?_
          repeat (go_big_quiet_step ((go_at_call 26; exact Calls.next_of (one_is _ _ _ _ _ HP.out))))
          refine wpQuiet_nil ?_
          intro _ hw'
          obtain ⟨nq, hw''⟩ := hw'
          subst hw''
          go_wp2_with fail
        · go_ret
          refine ⟨ret_bool ?_, hB.onNext _⟩
          have := validB_false l (k + 1) (by rw [HV.out]; exact HP.out)
          simp [this]
        · go_roundw
          case rel => exact ⟨k + 1, by omega, by go_num, by rw [HV.out]; exact HP.out, hB.onNext _⟩
          case measure => simp [intOf]; omega
      · obtain ⟨g1, g2, g3⟩ := hat (k - 1) _ (List.getElem?_eq_getElem (by omega))
        obtain ⟨c1, c2, c3, c4, c5⟩ := (okB_iff _).1 (take_ok hv (show k - 1 < k by omega) (by omega))
        have HV := Lib.hid (validB_succ l k hlt (by omega))
        have hd : decide (0 < k) = true := by simp; omega
        generalize l[k] = x at *
        generalize l[k - 1] = y at *
        clear hat hv
        cases hp : properB x.a x.n x.s
        all_goals
          have HP := Lib.hid hp
          clear hp
          go_wp2_with fail
          refine wp_region_next (by kernel_rfl) (by kernel_rfl) ?_
          repeat (go_big_quiet_step ((go_at_call 26; exact Calls.next_of (one_is _ _ _ _ _ HP.out))))
          refine wpQuiet_nil ?_
          intro _ hw'
          obtain ⟨nq, hw''⟩ := hw'
          subst hw''
          go_wp2_with fail
        · go_ret
          refine ⟨ret_bool ?_, hB.onNext _⟩
          have := validB_false l (k + 1) (by rw [HV.out]; simp [okB, HP.out])
          simp [this]
        · have hx : x.a < y.a + y.n := by assumption
          go_ret
          refine ⟨ret_bool ?_, hB.onNext _⟩
          have := validB_false l (k + 1) (by rw [HV.out]; simp [okB]; omega)
          simp [this]
        · have hx : y.a + y.n ≤ x.a := by assumption
          go_roundw
          case rel => exact ⟨k + 1, by omega, by go_num, by rw [HV.out, HH.out]; simp [okB, HP.out, hx], hB.onNext _⟩
          case measure => simp [intOf]; omega
    · have HV := Lib.hid hv
      clear hv
      go_wp2
      go_ret
      refine ⟨ret_bool ?_, hB⟩
      have := HV.out
      rw [List.take_of_length_le (by omega)] at this
      simp [this]
theorem rvalid_is (l : List E) (a : Option Addr) (c : Nat) (w : World) (r : Bool) (hv : validB l = r) (hr : Rd w a l) (hw : wfL l) :
    Calls Try.prog 16 #[.slice a l.length c] w fun e w' => e = .returned (.bool r) ∧ Below w.heap.size w w' := by
  subst hv
  exact rvalid_any l a c w hr hw

set_option maxHeartbeats 400000 in
theorem rpart_any (x : E) (f t : Int) (w : World) (hx : okB x = true) (f0 : 0 ≤ f) (f1 : f ≤ 131072) (t0 : 0 ≤ t) (t1 : t ≤ 131072) :
    Calls Try.prog 45 #[.agg #[.int .i64 x.a, .int .i64 x.n, .int .i64 x.s], .int .i64 f, .int .i64 t] w fun e w' =>
      e = .returned (.tuple #[.agg #[.int .i64 (partE x f t).a, .int .i64 (partE x f t).n, .int .i64 (partE x f t).s], .bool (partB x f t)]) ∧ Below w.heap.size w w' := by
  obtain ⟨c1, c2, c3, c4, c5⟩ := (okB_iff _).1 hx
  clear hx
  go_enter Try.func45, Try.ntmps45
  go_wp2_with fail
  refine wp_region_next (by kernel_rfl) (by kernel_rfl) ?_
  repeat (go_big_quiet_step (fail))
  refine wpQuiet_nil ?_
  intro _ hw'
  obtain ⟨nq, hw''⟩ := hw'
  subst hw''
  go_wp2_with fail
  all_goals
    first | have hM : max x.a f = x.a := by omega | have hM : max x.a f = f := by omega
    first | have hm : min (x.a + x.n) t = x.a + x.n := by omega | have hm : min (x.a + x.n) t = t := by omega
    refine bodyPost_ret (v := .tuple #[.agg #[.int .i64 (partE x f t).a, .int .i64 (partE x f t).n, .int .i64 (partE x f t).s], .bool (partB x f t)]) ?_ rfl ⟨rfl, ?_⟩
    · simp [results, Try.results45, go_sem, partE, partB, hM, hm]
    · (repeat (first | exact Below.refl _ _ | assumption | refine Below.onNext ?_ _ | refine Below.onAlloc ?_ _ | refine Below.setCell ?_ (by simp) _ | refine Below.drew ?_))
theorem rpart_is (x : E) (f t : Int) (r : Bool) (w : World) (hr : partB x f t = r) (hx : okB x = true) (f0 : 0 ≤ f) (f1 : f ≤ 131072) (t0 : 0 ≤ t) (t1 : t ≤ 131072) :
    Calls Try.prog 45 #[.agg #[.int .i64 x.a, .int .i64 x.n, .int .i64 x.s], .int .i64 f, .int .i64 t] w fun e w' =>
      e = .returned (.tuple #[.agg #[.int .i64 (partE x f t).a, .int .i64 (partE x f t).n, .int .i64 (partE x f t).s], .bool r]) ∧ Below w.heap.size w w' := by
  subst hr
  exact rpart_any x f t w hx f0 f1 t0 t1


set_option maxHeartbeats 400000 in
theorem rparts_any (l : List E) (f t : Int) (a : Option Addr) (c : Nat) (w : World) (hr : Rd w a l) (hl : l.length ≤ 100000000) (hok : ∀ x ∈ l, okB x = true) (f0 : 0 ≤ f) (f1 : f ≤ 131072) (t0 : 0 ≤ t) (t1 : t ≤ 131072) :
    Calls Try.prog 33 #[.slice a l.length c, .int .i64 f, .int .i64 t] w fun e w' => ∃ v, e = .returned v ∧ OwnE w' w.heap.size v (partsL l f t) ∧ Below w.heap.size w w' := by
  obtain ⟨i0, hi, hz0, hz1, hz2⟩ := info_parts infoE
  have HO := Lib.hid hok
  clear hok
  go_enter Try.func33, Try.ntmps33
  go_wp2
  go_loopw [7, 8] (fun v i wr => ∃ k : Nat, k ≤ l.length ∧ i = .int .i64 k ∧ OwnE wr w.heap.size v (partsL (l.take k) f t) ∧ Below w.heap.size w wr) (fun _ i _ => l.length - (intOf i).toNat)
  case atStart => exact ⟨0, Nat.zero_le _, rfl, OwnE.nil _ _, Below.refl _ _⟩
  case round =>
    obtain ⟨k, hk, rfl, ho, hB⟩ := hrel
    by_cases hlt : k < l.length
    · obtain ⟨b, o, rfl, hat⟩ := (hr.keep hB).at (by omega)
      obtain ⟨h1, h2, h3⟩ := hat k _ (List.getElem?_eq_getElem hlt)
      have HX := Lib.hid (HO.out _ (List.getElem_mem hlt))
      have HT := Lib.hid (partsL_take l f t k hlt)
      have hln := partsL_length (l.take k) f t
      have htl := List.length_take_le k l
      generalize l[k] = x at *
      generalize partsL (l.take k) f t = R at *
      have HR := Lib.hid ho
      clear hat hr ho
      cases b1 : partB x f t
      all_goals
        have B1 := Lib.hid b1
        clear b1
        go_wp2_with fail
        refine (rpart_is _ _ _ _ _ B1.out HX.out (by omega) (by omega) (by omega) (by omega)).mono ?_
        rintro e w2 ⟨rfl, hb1⟩
        have hB2 := hB.on hb1
        have hsz := hB2.size
        have HR2 := Lib.hid (HR.out.keep hb1)
        clear hb1
      · go_wp2_with fail
        go_roundw
        case rel => exact ⟨k + 1, by omega, by go_num, by rw [HT.out, B1.out]; exact HR2.out.keep ((Below.refl _ _).onAlloc _), hB2.onAlloc _⟩
        case measure => simp [intOf]; omega
      · go_wp2_with (at_builtin; refine wpList_append_x _ rfl _ _ 22 rfl w.heap.size 33 i0 (.agg #[.int .i64 0, .int .i64 0, .int .i64 0]) 3 24 Try.underlying22 hi hz0 hz1 hz2 rfl (by decide) _ _ _ rfl (World.ownsRow.alloc (OwnE.keep HR2.out ((Below.refl _ _).onAlloc _)) _) ⟨w2.heap.size + 1, 0, none⟩ 1 1 (E.cells (partE x f t)) rfl rfl (newE _ _ (by simp) _ _) (cellsE_one _) (by first | omega | (simp only [List.length_nil, List.length_append, List.length_cons]; omega)) (by first | (simp only [maxLen]; omega) | (simp only [maxLen, List.length_nil, List.length_append, List.length_cons]; omega)) (by simp only [World.size_alloc]; omega) ?_; intro v1 w1 hown1 hgrow1 hwhere1)
        go_roundw
        case rel =>
          refine ⟨k + 1, by omega, by go_num, by rw [HT.out, B1.out]; exact OwnE.snoc hown1 (by omega), ((hB2.onAlloc _).onAlloc _).onGrow hgrow1 fun j hj => (HR2.out.lt j hj).1⟩
        case measure => simp [intOf]; omega
    · go_wp2
      go_ret
      rw [List.take_of_length_le (by omega)] at ho
      exact ⟨_, rfl, ho, hB⟩
end Go.Proofs.Ytcalianponiioaa
