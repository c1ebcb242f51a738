/-
  extent.Join, extent.Blocks, extent.Find, extent.part, extent.Cut.
  Conditions: as each theorem says.
-/
import Derived.Test.YtcalianponiioaaTgC
import Derived.Test.YtcalianponiioaaTgQ
namespace Go.Proofs.Ytcalianponiioaa
set_option linter.unusedSimpArgs false
set_option linter.unusedVariables false
open Go.RowKit

theorem valid_is (l : List E) (a : Option Addr) (c : Nat) (w : World) (r : Bool) (hv : validB l = r) (hr : Rd w a l) (hw : wfL l) :
    Calls Try.prog 19 #[.slice a l.length c] w fun e w' => e = .returned (.bool r) ∧ Below w.heap.size w w' := by
  subst hv
  exact valid_any l a c w hr hw

theorem within_is (a n s : Int) (w : World) (r : Bool) (hr : withinB a n s = r) (ha : -9223372036854775808 ≤ a) (ha' : a ≤ 9223372036854775807) (hs0 : 0 ≤ s) (hs : s ≤ 100000) :
    Calls Try.prog 29 #[.int .i64 a, .int .i64 n, .int .i64 s] w fun e w' => e = .returned (.bool r) ∧ w = w' := by
  subst hr
  exact within_any a n s w ha ha' hs0 hs
/-- A list and its error. -/
def Listed (w : World) (l : List E) (e : Ending) (w' : World) : Prop := ∃ v, e = .returned (.tuple #[v, .int .i64 0]) ∧ OwnE w' w.heap.size v l ∧ Below w.heap.size w w'
def Refused (w : World) (e : Ending) (w' : World) : Prop := e = .returned (.tuple #[.slice none 0 0, .int .i64 1]) ∧ Below w.heap.size w w'

set_option maxHeartbeats 400000 in
theorem join_no (l : List E) (a : Option Addr) (c : Nat) (w : World) (hr : Rd w a l) (hw : wfL l) (hv : validB l = false) :
    Calls Try.prog 17 #[.slice a l.length c] w (Refused w) := by
  have HV := Lib.hid hv
  clear hv
  go_enter Try.func17, Try.ntmps17
  go_wp2_with (go_at_call 19; refine (valid_is _ _ _ _ _ HV.out hr hw).mono ?_; rintro e w' ⟨rfl, hb⟩)
  go_ret2
  exact ⟨rfl, hb⟩

set_option maxHeartbeats 400000 in
theorem join_yes (l : List E) (a : Option Addr) (c : Nat) (w : World) (hr : Rd w a l) (hw : wfL l) (hl : l.length ≤ 1000000000) (hv : validB l = true) :
    Calls Try.prog 17 #[.slice a l.length c] w (Listed w (joinL l)) := by
  have HV := Lib.hid hv
  have HO := Lib.hid (validB_ok hv)
  clear hv
  go_enter Try.func17, Try.ntmps17
  go_wp2_with (go_at_call 19; refine (valid_is _ _ _ _ _ HV.out hr hw).mono ?_; rintro e w' ⟨rfl, hb⟩)
  go_loopw [4, 12] (fun v i wr => ∃ k : Nat, k ≤ l.length ∧ i = .int .i64 k ∧ OwnE wr w.heap.size v (joinL (l.take k)) ∧ Below w.heap.size w wr) (fun _ i _ => l.length - (intOf i).toNat)
  case atStart => exact ⟨0, Nat.zero_le _, rfl, OwnE.nil _ _, hb⟩
  case round =>
    obtain ⟨k, hk, rfl, ho, hB⟩ := hrel
    by_cases hlt : k < l.length
    · obtain ⟨b, o, rfl, hat⟩ := (hr.keep hB).at (by omega)
      obtain ⟨h1, h2, h3⟩ := hat k _ (List.getElem?_eq_getElem hlt)
      have HX := Lib.hid (HO.out _ (List.getElem_mem hlt))
      have HT := Lib.hid (joinL_take l k hlt)
      have HY := Lib.hid (joinL_ok (l.take k) (fun x hx => HO.out x (List.mem_of_mem_take hx)))
      have hjl := joinL_length (l.take k)
      have htl := List.length_take_le k l
      have HW := Lib.hid ho
      generalize l[k] = x at *
      clear hat ho hr
      go_wp2_with (go_at_call 31; refine (push_any _ _ _ _ _ (OwnE.keep HW.out ((Below.refl _ _).onAlloc _)) (by have := hB.size; simp; omega) (by omega) HY.out HX.out).mono ?_; rintro e w1 ⟨v1, rfl, ho1, hg1, hw1⟩)
      go_roundw
      case rel => exact ⟨k + 1, by omega, by go_num, by rw [HT.out]; exact ho1, (hB.onAlloc _).onGrow hg1 fun j hj => (HW.out.lt j hj).1⟩
      case measure => simp [intOf]; omega
    · go_wp2
      go_ret2
      refine ⟨_, rfl, ?_, hB⟩
      rw [List.take_of_length_le (by omega)] at ho
      exact ho

set_option maxHeartbeats 400000 in
theorem blocks_any (l : List E) (a : Option Addr) (c : Nat) (w : World) (hr : Rd w a l) (hw : wfL l) (hl : l.length ≤ 1000000000) :
    Calls Try.prog 20 #[.slice a l.length c] w fun e w' => e = .returned (.int .i64 (blocksV l)) ∧ Below w.heap.size w w' := by
  cases hv : validB l
  · rw [blocksV_no hv]
    have HV := Lib.hid hv
    clear hv
    go_enter Try.func20, Try.ntmps20
    go_wp2_with (go_at_call 19; refine (valid_is _ _ _ _ _ HV.out hr hw).mono ?_; rintro e w' ⟨rfl, hb⟩)
    go_ret
    exact ⟨rfl, hb⟩
  · rw [blocksV_yes hv]
    have HV := Lib.hid hv
    have HO := Lib.hid (validB_ok hv)
    clear hv
    go_enter Try.func20, Try.ntmps20
    go_wp2_with (go_at_call 19; refine (valid_is _ _ _ _ _ HV.out hr hw).mono ?_; rintro e w' ⟨rfl, hb⟩)
    go_loopw [3, 11] (fun v i wr => ∃ k : Nat, k ≤ l.length ∧ i = .int .i64 k ∧ v = .int .i64 (lenL (l.take k)) ∧ Below w.heap.size w wr) (fun _ i _ => l.length - (intOf i).toNat)
    case atStart => exact ⟨0, Nat.zero_le _, rfl, rfl, hb⟩
    case round =>
      obtain ⟨k, hk, rfl, rfl, hB⟩ := hrel
      by_cases hlt : k < l.length
      · obtain ⟨b, o, rfl, hat⟩ := (hr.keep hB).at (by omega)
        obtain ⟨h1, h2, h3⟩ := hat k _ (List.getElem?_eq_getElem hlt)
        have HX := (okB_iff _).1 (HO.out _ (List.getElem_mem hlt))
        have HT := Lib.hid (lenL_take l k hlt)
        have hbd := lenL_bound (l.take k) (fun x hx => HO.out x (List.mem_of_mem_take hx))
        have htl := List.length_take_le k l
        generalize l[k] = x at *
        generalize lenL (l.take k) = s at *
        clear hat hr
        go_wp2
        go_roundw
        case rel => exact ⟨k + 1, by omega, by go_num, by rw [HT.out], hB.onAlloc _⟩
        case measure => simp [intOf]; omega
      · go_wp2
        go_ret
        refine ⟨ret_int ?_, hB⟩
        rw [List.take_of_length_le (by omega)]

set_option maxHeartbeats 400000 in
theorem find_any (l : List E) (p : Int) (a : Option Addr) (c : Nat) (w : World) (hr : Rd w a l) (hw : wfL l) :
    Calls Try.prog 22 #[.slice a l.length c, .int .i64 p] w fun e w' => e = .returned (.tuple #[.int .i64 (findV l p), .bool (findW l p)]) ∧ Below w.heap.size w w' := by
  have hlen := hr.1
  cases hv : validB l
  · rw [findV_no p hv, findW_no p hv]
    have HV := Lib.hid hv
    clear hv
    go_enter Try.func22, Try.ntmps22
    go_wp2_with (go_at_call 19; refine (valid_is _ _ _ _ _ HV.out hr hw).mono ?_; rintro e w' ⟨rfl, hb⟩)
    go_ret2
    exact ⟨rfl, hb⟩
  · rw [findV_yes p hv, findW_yes p hv]
    have HV := Lib.hid hv
    have HO := Lib.hid (validB_ok hv)
    clear hv
    go_enter Try.func22, Try.ntmps22
    go_wp2_with (go_at_call 19; refine (valid_is _ _ _ _ _ HV.out hr hw).mono ?_; rintro e w' ⟨rfl, hb⟩)
    go_loopw [13] (fun i wr => ∃ k : Nat, k ≤ l.length ∧ i = .int .i64 k ∧ (l.take k).find? (hits p) = none ∧ Below w.heap.size w wr) (fun i _ => l.length - (intOf i).toNat)
    case atStart => exact ⟨0, Nat.zero_le _, rfl, by simp, hb⟩
    case round =>
      obtain ⟨k, hk, rfl, hn, hB⟩ := hrel
      by_cases hlt : k < l.length
      · obtain ⟨b, o, rfl, hat⟩ := (hr.keep hB).at (by omega)
        obtain ⟨h1, h2, h3⟩ := hat k _ (List.getElem?_eq_getElem hlt)
        obtain ⟨c1, c2, c3, c4, c5⟩ := (okB_iff _).1 (HO.out _ (List.getElem_mem hlt))
        have HF := Lib.hid (find_take l p k hlt hn)
        generalize l[k] = x at *
        clear hat hr hn
        go_wp2_with (go_at_call 35; refine (end_any _ _ _ _ (by omega) (by omega)).mono ?_; rintro e w1 ⟨rfl, hb1⟩; have x1 : w1.cell? ⟨wr.heap.size, 0, none⟩ = some (.int .i64 x.a) := hb1.keep (by simp); have x3 : w1.cell? ⟨wr.heap.size, 2, none⟩ = some (.int .i64 x.s) := hb1.keep (by simp); have hBW := (hB.onAlloc _).on hb1; clear hb1)
        · have g1 : x.a ≤ p := by assumption
          have g2 : p < x.a + x.n := by assumption
          have hf := HF.out.2 (by simp [hits, g1, g2])
          go_ret2
          exact ⟨by simp [findS, findB, hf], hBW⟩
        · have g1 : x.a ≤ p := by assumption
          have g2 : x.a + x.n ≤ p := by assumption
          have hf := HF.out.1 (by simp [hits]; omega)
          go_roundw
          case rel => exact ⟨k + 1, by omega, by go_num, hf, hBW⟩
          case measure => simp [intOf]; omega
        · have hf := HF.out.1 (by simp [hits]; omega)
          go_roundw
          case rel => exact ⟨k + 1, by omega, by go_num, hf, hB.onAlloc _⟩
          case measure => simp [intOf]; omega
      · have HN := Lib.hid hn
        clear hn
        go_wp2
        go_ret2
        have := HN.out
        rw [List.take_of_length_le (by omega)] at this
        simp [findS, findB, this, hB]

set_option maxHeartbeats 400000 in
theorem part_any (x : E) (f t : Int) (w : World) (hx : okB x = true) (f0 : 0 ≤ f) (f1 : f ≤ 65536) (t0 : 0 ≤ t) (t1 : t ≤ 131072) :
    Calls Try.prog 30 #[.agg #[.int .i64 x.a, .int .i64 x.n, .int .i64 x.s], .int .i64 f, .int .i64 t] w fun e w' =>
      e = .returned (.tuple #[.agg #[.int .i64 (partE x f t).a, .int .i64 (partE x f t).n, .int .i64 (partE x f t).s], .bool (partB x f t)]) ∧ Below w.heap.size w w' := by
  obtain ⟨c1, c2, c3, c4, c5⟩ := (okB_iff _).1 hx
  clear hx
  go_enter Try.func30, Try.ntmps30
  go_wp2_with fail
  refine wp_region_next (by kernel_rfl) (by kernel_rfl) ?_
  repeat (go_big_quiet_step ((go_at_call 35; exact Calls.next_of (end_any _ _ _ _ (by omega) (by omega)))))
  refine wpQuiet_nil ?_
  intro _ hw'
  obtain ⟨nq, hw''⟩ := hw'
  subst hw''
  go_wp2_with fail
  all_goals
    first | have hM : max x.a f = x.a := by omega | have hM : max x.a f = f := by omega
    first | have hm : min (x.a + x.n) t = x.a + x.n := by omega | have hm : min (x.a + x.n) t = t := by omega
    refine bodyPost_ret (v := .tuple #[.agg #[.int .i64 (partE x f t).a, .int .i64 (partE x f t).n, .int .i64 (partE x f t).s], .bool (partB x f t)]) ?_ rfl ⟨rfl, ?_⟩
    · simp [results, Try.results30, go_sem, partE, partB, hM, hm]
    · (repeat (first | exact Below.refl _ _ | assumption | refine Below.onNext ?_ _ | refine Below.onAlloc ?_ _ | refine Below.setCell ?_ (by simp) _ | refine Below.drew ?_))

theorem part_is (x : E) (f t : Int) (r : Bool) (w : World) (hr : partB x f t = r) (hx : okB x = true) (f0 : 0 ≤ f) (f1 : f ≤ 65536) (t0 : 0 ≤ t) (t1 : t ≤ 131072) :
    Calls Try.prog 30 #[.agg #[.int .i64 x.a, .int .i64 x.n, .int .i64 x.s], .int .i64 f, .int .i64 t] w fun e w' =>
      e = .returned (.tuple #[.agg #[.int .i64 (partE x f t).a, .int .i64 (partE x f t).n, .int .i64 (partE x f t).s], .bool r]) ∧ Below w.heap.size w w' := by
  subst hr
  exact part_any x f t w hx f0 f1 t0 t1
end Go.Proofs.Ytcalianponiioaa
