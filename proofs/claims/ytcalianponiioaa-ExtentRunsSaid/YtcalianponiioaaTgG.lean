/-
  The specification's Join, Cut, Same, Blocks, Find.
  Conditions: as each theorem says.
-/
import Derived.Test.YtcalianponiioaaTgF
namespace Go.Proofs.Ytcalianponiioaa
set_option linter.unusedSimpArgs false
set_option linter.unusedVariables false
open Go.RowKit

set_option maxHeartbeats 400000 in
theorem rjoin_no (l : List E) (a : Option Addr) (c : Nat) (w : World) (hr : Rd w a l) (hw : wfL l) (hv : validB l = false) :
    Calls Try.prog 18 #[.slice a l.length c] w (Refused w) := by
  have HV := Lib.hid hv
  clear hv
  go_enter Try.func18, Try.ntmps18
  go_wp2_with (go_at_call 16; refine (rvalid_is _ _ _ _ _ HV.out hr hw).mono ?_; rintro e w' ⟨rfl, hb⟩)
  go_ret2
  exact ⟨rfl, hb⟩

set_option maxHeartbeats 1000000 in
theorem rjoin_yes (l : List E) (a : Option Addr) (c : Nat) (w : World) (hr : Rd w a l) (hw : wfL l) (hl : l.length ≤ 1000000000) (hv : validB l = true) :
    Calls Try.prog 18 #[.slice a l.length c] w (Listed w (joinL l)) := by
  obtain ⟨i0, hi, hz0, hz1, hz2⟩ := info_parts infoE
  have HV := Lib.hid hv
  have HO := Lib.hid (validB_ok hv)
  clear hv
  go_enter Try.func18, Try.ntmps18
  go_wp2_with (go_at_call 16; refine (rvalid_is _ _ _ _ _ HV.out hr hw).mono ?_; rintro e w' ⟨rfl, hb⟩)
  go_loopw [4, 5] (fun v i wr => ∃ k : Nat, k ≤ l.length ∧ i = .int .i64 k ∧ OwnE wr w.heap.size v (joinL (l.take k)) ∧ Below w.heap.size w wr) (fun _ i _ => l.length - (intOf i).toNat)
  case atStart => exact ⟨0, Nat.zero_le _, rfl, OwnE.nil _ _, hb⟩
  case round =>
    obtain ⟨k, hk, rfl, ho, hB⟩ := hrel
    by_cases hlt : k < l.length
    · obtain ⟨b, o, rfl, hat⟩ := (hr.keep hB).at (by omega)
      obtain ⟨h1, h2, h3⟩ := hat k _ (List.getElem?_eq_getElem hlt)
      have HX := (okB_iff _).1 (HO.out _ (List.getElem_mem hlt))
      have HT := Lib.hid (joinL_take l k hlt)
      have HY := Lib.hid (joinL_ok (l.take k) (fun x hx => HO.out x (List.mem_of_mem_take hx)))
      have hjl := joinL_length (l.take k)
      have htl := List.length_take_le k l
      generalize l[k] = x at *
      generalize joinL (l.take k) = R at *
      by_cases hR : R = []
      · subst hR
        have HR := Lib.hid ho
        obtain ⟨a4, c4, rfl⟩ : ∃ a c, u4 = .slice a 0 c := by
          rcases ho.form with ⟨rfl, _⟩ | ⟨g, c, rfl, _⟩
          · exact ⟨_, _, rfl⟩
          · exact ⟨_, _, rfl⟩
        clear hat ho hr
        go_wp2_with fail
        refine wp_region_next (by kernel_rfl) (by kernel_rfl) ?_
        repeat (go_big_quiet_step (fail))
        refine wpQuiet_nil ?_
        intro _ hw'
        obtain ⟨nq, hw''⟩ := hw'
        subst hw''
        have hB2 := hB.onNext nq
        have hsz := hB2.size
        have HR2 := Lib.hid (HR.out.keep (World.below_next wr nq))
        go_wp2_with (at_builtin; refine wpList_append_x _ rfl _ _ 22 rfl w.heap.size 33 i0 (.agg #[.int .i64 0, .int .i64 0, .int .i64 0]) 3 24 Try.underlying22 hi hz0 hz1 hz2 rfl (by decide) _ _ _ rfl (World.ownsRow.alloc HR2.out _) ⟨(wr.next nq).heap.size, 0, none⟩ 1 1 (E.cells x) rfl rfl (newE _ _ (by simp) _ _) (cellsE_one _) (by first | omega | (simp only [List.length_nil, List.length_append, List.length_cons]; omega)) (by first | (simp only [maxLen]; omega) | (simp only [maxLen, List.length_nil, List.length_append, List.length_cons]; omega)) (by simp only [World.size_alloc]; omega) ?_; intro v1 w1 hown1 hgrow1 hwhere1)
        go_roundw
        case rel => exact ⟨k + 1, by omega, by go_num, by rw [HT.out, pushL_nil]; exact OwnE.snoc hown1 (by simp), (hB2.onAlloc _).onGrow hgrow1 fun j hj => (HR2.out.lt j hj).1⟩
        case measure => simp [intOf]; omega
      · obtain ⟨R', y, rfl⟩ := snoc_of R hR
        obtain ⟨g, c4, rfl, hg1, hg2, hc1, hc2, hgt, hfz⟩ := (ho.form).resolve_left (by simp)
        obtain ⟨y1, y2, y3⟩ := hgt R'.length y (by simp)
        simp only [List.length_append, List.length_cons, List.length_nil, Nat.zero_add] at y1 y2 y3 hc1 hjl
        have hf := hfz (R'.length * 3 + 1)
        obtain ⟨e1, e2, e3, e4, e5⟩ := (okB_iff y).1 (HY.out y (by simp))
        obtain ⟨f1, f2, f3, f4, f5⟩ := HX
        have hlen : (R' ++ [y]).length = R'.length + 1 := by simp
        have hlen2 : (R' ++ [y]).length ≤ R'.length + 1 := by simp
        rw [hlen] at ho
        rw [hlen]
        have HR := Lib.hid ho
        have hd : decide (0 ≤ R'.length) = true := by simp
        clear hgt hfz hat ho hr hR hlen
        cases hm : meets y x
        · have HP := Lib.hid (pushL_no R' y x hm)
          by_cases ha : y.a + y.n = x.a
          · have hs : y.s + y.n ≠ x.s := by intro h; simp [meets, ha, h] at hm
            have hab : (x.a == y.a + y.n) = true := by simp [ha]
            have hsb : (x.s == y.s + y.n) = false := by simpa using Ne.symm hs
            clear ha hm hs
            go_wp2_with fail
            refine wp_region_next (by kernel_rfl) (by kernel_rfl) ?_
            repeat (go_big_quiet_step (fail))
            refine wpQuiet_nil ?_
            intro _ hw'
            obtain ⟨nq, hw''⟩ := hw'
            subst hw''
            have hB2 := hB.onNext nq
            have hsz := hB2.size
            have HR2 := Lib.hid (HR.out.keep (World.below_next wr nq))
            go_wp2_with (at_builtin; refine wpList_append_x _ rfl _ _ 22 rfl w.heap.size 33 i0 (.agg #[.int .i64 0, .int .i64 0, .int .i64 0]) 3 24 Try.underlying22 hi hz0 hz1 hz2 rfl (by decide) _ _ _ rfl (World.ownsRow.alloc HR2.out _) ⟨(wr.next nq).heap.size, 0, none⟩ 1 1 (E.cells x) rfl rfl (newE _ _ (by simp) _ _) (cellsE_one _) (by first | omega | (simp only [List.length_nil, List.length_append, List.length_cons]; omega)) (by first | (simp only [maxLen]; omega) | (simp only [maxLen, List.length_nil, List.length_append, List.length_cons]; omega)) (by simp only [World.size_alloc]; omega) ?_; intro v1 w1 hown1 hgrow1 hwhere1)
            go_roundw
            case rel => exact ⟨k + 1, by omega, by go_num, by rw [HT.out, HP.out]; exact OwnE.snoc hown1 (by simp), (hB2.onAlloc _).onGrow hgrow1 fun j hj => (HR2.out.lt j hj).1⟩
            case measure => simp [intOf]; omega
          · have hab : (x.a == y.a + y.n) = false := by simpa using Ne.symm ha
            clear ha hm
            go_wp2_with fail
            refine wp_region_next (by kernel_rfl) (by kernel_rfl) ?_
            repeat (go_big_quiet_step (fail))
            refine wpQuiet_nil ?_
            intro _ hw'
            obtain ⟨nq, hw''⟩ := hw'
            subst hw''
            have hB2 := hB.onNext nq
            have hsz := hB2.size
            have HR2 := Lib.hid (HR.out.keep (World.below_next wr nq))
            go_wp2_with (at_builtin; refine wpList_append_x _ rfl _ _ 22 rfl w.heap.size 33 i0 (.agg #[.int .i64 0, .int .i64 0, .int .i64 0]) 3 24 Try.underlying22 hi hz0 hz1 hz2 rfl (by decide) _ _ _ rfl (World.ownsRow.alloc HR2.out _) ⟨(wr.next nq).heap.size, 0, none⟩ 1 1 (E.cells x) rfl rfl (newE _ _ (by simp) _ _) (cellsE_one _) (by first | omega | (simp only [List.length_nil, List.length_append, List.length_cons]; omega)) (by first | (simp only [maxLen]; omega) | (simp only [maxLen, List.length_nil, List.length_append, List.length_cons]; omega)) (by simp only [World.size_alloc]; omega) ?_; intro v1 w1 hown1 hgrow1 hwhere1)
            go_roundw
            case rel => exact ⟨k + 1, by omega, by go_num, by rw [HT.out, HP.out]; exact OwnE.snoc hown1 (by simp), (hB2.onAlloc _).onGrow hgrow1 fun j hj => (HR2.out.lt j hj).1⟩
            case measure => simp [intOf]; omega
        · have HP := Lib.hid (pushL_yes R' y x hm)
          simp only [meets, Bool.and_eq_true, decide_eq_true_eq] at hm
          have hab : (x.a == y.a + y.n) = true := by simp [hm.1]
          have hsb : (x.s == y.s + y.n) = true := by simp [hm.2]
          clear hm
          go_wp2_with fail
          refine wp_region_next (by kernel_rfl) (by kernel_rfl) ?_
          repeat (go_big_quiet_step (fail))
          refine wpQuiet_nil ?_
          intro _ hw'
          obtain ⟨nq, hw''⟩ := hw'
          subst hw''
          have hB2 := hB.onNext nq
          have HR2 := Lib.hid (HR.out.keep (World.below_next wr nq))
          have hbn := World.below_next wr nq
          have k1 := hbn.keep h1
          have k2 := hbn.keep h2
          have k3 := hbn.keep h3
          have z2 := hbn.keep y2
          have hfr := hbn.keepF y2 hf
          generalize hW : wr.next nq = W at *
          clear hbn h1 h2 h3 y1 y2 y3 hf HR hW
          go_wp2_with fail
          refine wp_region_next_tail 13 (by kernel_rfl) (by kernel_rfl) ?_
          simp only [List.take_succ_cons, List.take_zero, List.drop_succ_cons, List.drop_zero]
          repeat (go_big_quiet_step (fail))
          refine wpQuiet_nil ?_
          intro _ hw'
          obtain ⟨nq, hw''⟩ := hw'
          subst hw''
          have hB3 := hB2.onNext nq
          have HR3 := Lib.hid (HR2.out.keep (World.below_next W nq))
          go_wp2_with fail
          have h3 := HR3.out
          unfold OwnE at h3
          rw [show (R' ++ [y]).length = R'.length + 1 by simp] at h3
          have hst := World.ownsRow.stored h3 (R'.length * 3 + 1) (.int .i64 (y.n + x.n))
          rw [cellsL_longer] at hst
          have HS1 := Lib.hid hst.1
          have HS2 := Lib.hid hst.2
          clear hst h3
          go_roundw
          case rel =>
            refine ⟨k + 1, by omega, by go_num, ?_, hB3.onGrow HS2.out fun j hj => by simp at hj; omega⟩
            rw [HT.out, HP.out]
            unfold OwnE
            rw [show (R' ++ [y.longer x.n]).length = R'.length + 1 by simp]
            exact HS1.out
          case measure => simp [intOf]; omega
    · go_wp2
      go_ret2
      rw [List.take_of_length_le (by omega)] at ho
      exact ⟨_, rfl, ho, hB⟩
end Go.Proofs.Ytcalianponiioaa
