/-
  The walks of the laws ExtentFind, ExtentValid, ExtentCut: each returns true and leaves old memory as it was.
  Conditions: none beyond that the arguments can be read.
-/
import Derived.Test.YtcalianponiioaaTgI
namespace Go.Proofs.Ytcalianponiioaa
set_option linter.unusedSimpArgs false
set_option linter.unusedVariables false
open Go.RowKit

set_option maxHeartbeats 400000 in
theorem law_find (l : List E) (p : Int) (a : Option Addr) (c : Nat) (w : World) (hl : l.length ≤ 9223372036854775807 ∧ l.length ≤ c ∧ c ≤ 9223372036854775807) (hr : l.length ≤ 46912496118443 → Rd w a l) (hw : wfL l) :
    Calls Try.prog 6 #[.slice a l.length c, .int .i64 p] w fun e w' => e = .returned (.bool true) ∧ Below w.heap.size w w' := by
  have hlen := hl.1
  by_cases h40 : 40 < l.length
  · clear hr
    go_enter Try.func6, Try.ntmps6
    go_wp2_with (go_at_call 11; refine (awake_any _).mono ?_; rintro e w1 ⟨rfl, hb1⟩)
    go_ret
    exact ⟨rfl, hb1⟩
  · have hr := hr (by omega)
    have h40' : l.length ≤ 40 := by omega
    clear h40
    go_enter Try.func6, Try.ntmps6
    go_wp2_with (first | (go_at_call 11; refine (awake_any _).mono ?_; rintro e w1 ⟨rfl, hb1⟩) | (go_at_call 22; refine (find_any l p _ _ _ (hr.keep hb1) hw).mono ?_; rintro e w2 ⟨rfl, hb2⟩; have hB2 := hb1.on hb2))
    refine (rfind_any l p _ _ _ (hr.keep hB2) hw).mono ?_
    rintro e w3 ⟨rfl, hb3⟩
    have hB3 := hB2.on hb3
    clear hr hw
    go_wp2_with fail
    go_ret
    exact ⟨ret_bool (by simp), hB3⟩

set_option maxHeartbeats 1000000 in
theorem law_valid (l : List E) (a : Option Addr) (c : Nat) (w : World) (hl : l.length ≤ 9223372036854775807 ∧ l.length ≤ c ∧ c ≤ 9223372036854775807) (hr : l.length ≤ 46912496118443 → Rd w a l) (hw : wfL l) :
    Calls Try.prog 5 #[.slice a l.length c] w fun e w' => e = .returned (.bool true) ∧ Below w.heap.size w w' := by
  have hlen := hl.1
  by_cases h40 : 40 < l.length
  · clear hr
    go_enter Try.func5, Try.ntmps5
    go_wp2_with (go_at_call 11; refine (awake_any _).mono ?_; rintro e w1 ⟨rfl, hb1⟩)
    go_ret
    exact ⟨rfl, hb1⟩
  · have hr := hr (by omega)
    have h40' : l.length ≤ 40 := by omega
    clear h40
    cases hv : validB l
    all_goals
      have HV := Lib.hid hv
      clear hv
      go_enter Try.func5, Try.ntmps5
      go_wp2_with (first | (go_at_call 11; refine (awake_any _).mono ?_; rintro e w1 ⟨rfl, hb1⟩) | (go_at_call 12; refine (copied_any l _ _ _ (hr.keep hb1) (by omega)).mono ?_; rintro e w2 ⟨v2, rfl, ho2, hb2⟩))
      obtain ⟨a2, c2, rfl, hv2⟩ := ho2.rd (by omega)
      have hB2 := hb1.on hb2
      clear ho2
    · refine (join_no l _ _ _ hv2 hw HV.out).mono ?_
      rintro e w3 ⟨rfl, hb3⟩
      have hB3 := hB2.on hb3
      go_wp2_with fail
      refine (rjoin_no l _ _ _ (hr.keep hB3) hw HV.out).mono ?_
      rintro e w4 ⟨rfl, hb4⟩
      have hB4 := hB3.on hb4
      go_wp2_with fail
      refine (valid_is l _ _ _ _ HV.out (hr.keep hB4) hw).mono ?_
      rintro e w5 ⟨rfl, hb5⟩
      have hB5 := hB4.on hb5
      go_wp2_with fail
      refine (rvalid_is l _ _ _ _ HV.out (hr.keep hB5) hw).mono ?_
      rintro e w6 ⟨rfl, hb6⟩
      have hB6 := hB5.on hb6
      go_wp2_with fail
      refine (same_is [] [] _ _ 0 0 true _ (by decide) ⟨by simp, .inl rfl⟩ ⟨by simp, .inl rfl⟩).mono ?_
      rintro e w7 ⟨rfl, hb7⟩
      have hB7 := hB6.on hb7
      clear hb1 hb2 hb3 hb4 hb5 hb6 hb7 hB2 hB3 hB4 hB5 hv2
      go_wp2_with fail
      refine (blocks_any l _ _ _ (hr.keep hB7) hw (by omega)).mono ?_
      rintro e w8 ⟨rfl, hb8⟩
      have hB8 := hB7.on hb8
      go_wp2_with fail
      refine (rblocks_any l _ _ _ (hr.keep hB8) hw (by omega)).mono ?_
      rintro e w9 ⟨rfl, hb9⟩
      have hB9 := hB8.on hb9
      go_wp2_with fail
      go_ret
      exact ⟨ret_bool (by simp), hB9⟩
    · refine (join_yes l _ _ _ hv2 hw (by omega) HV.out).mono ?_
      rintro e w3 ⟨v3, rfl, ho3, hb3⟩
      have hB3 := hB2.on hb3
      have HO3 := Lib.hid ho3
      clear ho3 hv2
      go_wp2_with fail
      refine (rjoin_yes l _ _ _ (hr.keep hB3) hw (by omega) HV.out).mono ?_
      rintro e w4 ⟨v4, rfl, ho4, hb4⟩
      have hB4 := hB3.on hb4
      have hjl := joinL_length l
      obtain ⟨a3, c3, rfl, hr3⟩ := (HO3.out.keep hb4).rd (by omega)
      obtain ⟨a4, c4, rfl, hr4⟩ := ho4.rd (by omega)
      clear ho4 HO3 hb4
      go_wp2_with fail
      refine (valid_is l _ _ _ _ HV.out (hr.keep hB4) hw).mono ?_
      rintro e w5 ⟨rfl, hb5⟩
      have hB5 := hB4.on hb5
      go_wp2_with fail
      refine (rvalid_is l _ _ _ _ HV.out (hr.keep hB5) hw).mono ?_
      rintro e w6 ⟨rfl, hb6⟩
      have hB6 := hB5.on hb6
      go_wp2_with fail
      refine (same_is (joinL l) (joinL l) _ _ _ _ true _ (sameB_refl _) ((hr3.keep hb5).keep hb6) ((hr4.keep hb5).keep hb6)).mono ?_
      rintro e w7 ⟨rfl, hb7⟩
      have hB7 := hB6.on hb7
      clear hb1 hb2 hb3 hb5 hb6 hb7 hB2 hB3 hB4 hB5 hr3 hr4
      go_wp2_with fail
      refine (blocks_any l _ _ _ (hr.keep hB7) hw (by omega)).mono ?_
      rintro e w8 ⟨rfl, hb8⟩
      have hB8 := hB7.on hb8
      go_wp2_with fail
      refine (rblocks_any l _ _ _ (hr.keep hB8) hw (by omega)).mono ?_
      rintro e w9 ⟨rfl, hb9⟩
      have hB9 := hB8.on hb9
      go_wp2_with fail
      go_ret
      exact ⟨ret_bool (by simp), hB9⟩

set_option maxHeartbeats 1000000 in
theorem law_cut (l : List E) (p n : Int) (a : Option Addr) (c : Nat) (w : World) (hl : l.length ≤ 9223372036854775807 ∧ l.length ≤ c ∧ c ≤ 9223372036854775807) (hr : l.length ≤ 46912496118443 → Rd w a l) (hw : wfL l) (hp0 : -9223372036854775808 ≤ p) (hp1 : p ≤ 9223372036854775807) :
    Calls Try.prog 3 #[.slice a l.length c, .int .i64 p, .int .i64 n] w fun e w' => e = .returned (.bool true) ∧ Below w.heap.size w w' := by
  have hlen := hl.1
  by_cases h40 : 40 < l.length
  · clear hr
    go_enter Try.func3, Try.ntmps3
    go_wp2_with (go_at_call 11; refine (awake_any _).mono ?_; rintro e w1 ⟨rfl, hb1⟩)
    go_ret
    exact ⟨rfl, hb1⟩
  · have hr := hr (by omega)
    have h40' : l.length ≤ 40 := by omega
    clear h40
    cases hv : (validB l && withinB p n 65536)
    all_goals
      have HV := Lib.hid hv
      clear hv
      go_enter Try.func3, Try.ntmps3
      go_wp2_with (first | (go_at_call 11; refine (awake_any _).mono ?_; rintro e w1 ⟨rfl, hb1⟩) | (go_at_call 12; refine (copied_any l _ _ _ (hr.keep hb1) (by omega)).mono ?_; rintro e w2 ⟨v2, rfl, ho2, hb2⟩))
      obtain ⟨a2, c2, rfl, hv2⟩ := ho2.rd (by omega)
      have hB2 := hb1.on hb2
      clear ho2
    · refine (cut_no l p n _ _ _ (hr.keep hB2) hw hp0 hp1 HV.out).mono ?_
      rintro e w3 ⟨rfl, hb3⟩
      have hB3 := hB2.on hb3
      have hv3 := hv2.keep hb3
      go_wp2_with fail
      refine (rcut_no l p n _ _ _ (hr.keep hB3) hw HV.out).mono ?_
      rintro e w4 ⟨rfl, hb4⟩
      have hB4 := hB3.on hb4
      have hv4 := hv3.keep hb4
      clear hb1 hb2 hb3 hb4 hB2 hB3 hv2 hv3
      go_wp2_with fail
      refine (same_is [] [] _ _ 0 0 true _ (by decide) ⟨by simp, .inl rfl⟩ ⟨by simp, .inl rfl⟩).mono ?_
      rintro e w5 ⟨rfl, hb5⟩
      have hB5 := hB4.on hb5
      have hv5 := hv4.keep hb5
      go_wp2_with fail
      refine (same_is [] [] _ _ 0 0 true _ (by decide) ⟨by simp, .inl rfl⟩ ⟨by simp, .inl rfl⟩).mono ?_
      rintro e w6 ⟨rfl, hb6⟩
      have hB6 := hB5.on hb6
      have hv6 := hv5.keep hb6
      go_wp2_with fail
      refine (same_is l l _ _ _ _ true _ (sameB_refl _) (hr.keep hB6) hv6).mono ?_
      rintro e w7 ⟨rfl, hb7⟩
      have hB7 := hB6.on hb7
      go_wp2_with fail
      go_ret
      exact ⟨ret_bool (by simp), hB7⟩
    · obtain ⟨hv, hp⟩ : validB l = true ∧ withinB p n 65536 = true := by simpa using HV.out
      have hn : 0 ≤ n := by simp [withinB] at hp; omega
      have CE := Lib.hid (cutL_eq l p n hn hv)
      have IE := Lib.hid (inL_eq l p n)
      have V1 := Lib.hid (parts_append_valid l 0 p (p + n) 65536 hv (by omega))
      have V2 := Lib.hid (parts_valid l p (p + n) hv)
      have HP := Lib.hid hp
      have HL := Lib.hid hv
      obtain ⟨cl, _⟩ := cutL_facts l p n (validB_ok hv)
      obtain ⟨il, _⟩ := inL_facts l p n (validB_ok hv)
      clear hv hp
      refine (cut_yes l p n _ _ _ (hr.keep hB2) hw (by omega) HL.out HP.out).mono ?_
      rintro e w3 ⟨v3, m3, rfl, ho3, hm3, _, hb3⟩
      have hB3 := hB2.on hb3
      have hv3 := hv2.keep hb3
      have HO3 := Lib.hid ho3
      have HM3 := Lib.hid hm3
      clear ho3 hm3
      go_wp2_with fail
      refine (rcut_yes l p n _ _ _ (hr.keep hB3) hw (by omega) HL.out HP.out V1.out V2.out).mono ?_
      rintro e w4 ⟨v4, m4, rfl, ho4, hm4, hb4⟩
      rw [← CE.out] at ho4
      rw [← IE.out] at hm4
      have hB4 := hB3.on hb4
      have hv4 := hv3.keep hb4
      obtain ⟨a3, c3, rfl, hr3⟩ := (HO3.out.keep hb4).rd (by omega)
      obtain ⟨a4, c4, rfl, hr4⟩ := (HM3.out.keep hb4).rd (by omega)
      obtain ⟨a5, c5, rfl, hr5⟩ := ho4.rd (by omega)
      obtain ⟨a6, c6, rfl, hr6⟩ := hm4.rd (by omega)
      clear hb1 hb2 hb3 hb4 hB2 hB3 hv2 hv3 HO3 HM3 ho4 hm4
      go_wp2_with fail
      refine (same_is (cutL l p n) (cutL l p n) _ _ _ _ true _ (sameB_refl _) hr3 hr5).mono ?_
      rintro e w5 ⟨rfl, hb5⟩
      have hB5 := hB4.on hb5
      have hv5 := hv4.keep hb5
      go_wp2_with fail
      refine (same_is (inL l p n) (inL l p n) _ _ _ _ true _ (sameB_refl _) (hr4.keep hb5) (hr6.keep hb5)).mono ?_
      rintro e w6 ⟨rfl, hb6⟩
      have hB6 := hB5.on hb6
      have hv6 := hv5.keep hb6
      clear hb5 hr3 hr4 hr5 hr6 hv4 hv5
      go_wp2_with fail
      refine (same_is l l _ _ _ _ true _ (sameB_refl _) (hr.keep hB6) hv6).mono ?_
      rintro e w7 ⟨rfl, hb7⟩
      have hB7 := hB6.on hb7
      go_wp2_with fail
      go_ret
      exact ⟨ret_bool (by simp), hB7⟩
end Go.Proofs.Ytcalianponiioaa
