/-
  The walk of the law ExtentPut.
  Conditions: none beyond that the arguments can be read.
-/
import Derived.Test.YtcalianponiioaaTgO
namespace Go.Proofs.Ytcalianponiioaa
set_option linter.unusedSimpArgs false
set_option linter.unusedVariables false
open Go.RowKit

theorem putL_length (l : List E) (x : E) : (putL l x).length ≤ 2 * l.length + 1 := by
  have h1 := joinL_length (partsL l 0 x.a ++ ([x] ++ partsL l (x.a + x.n) 65536))
  have h2 := partsL_length l 0 x.a
  have h3 := partsL_length l (x.a + x.n) 65536
  simp only [List.length_append, List.length_cons, List.length_nil] at h1
  unfold putL
  omega

set_option maxHeartbeats 1000000 in
theorem law_put (l : List E) (x : E) (a : Option Addr) (c : Nat) (w : World) (hl : l.length ≤ 9223372036854775807 ∧ l.length ≤ c ∧ c ≤ 9223372036854775807) (hr : l.length ≤ 46912496118443 → Rd w a l) (hw : wfL l) (hxw : x.wf) :
    Calls Try.prog 7 #[.slice a l.length c, .agg #[.int .i64 x.a, .int .i64 x.n, .int .i64 x.s]] w fun e w' => e = .returned (.bool true) ∧ Below w.heap.size w w' := by
  have hlen := hl.1
  by_cases h40 : 40 < l.length
  · clear hr
    go_enter Try.func7, Try.ntmps7
    go_wp2_with (go_at_call 11; refine (awake_any _).mono ?_; rintro e w1 ⟨rfl, hb1⟩)
    go_ret
    exact ⟨rfl, ((Below.refl w.heap.size w).onAlloc _).on hb1⟩
  · have hr := hr (by omega)
    have h40' : l.length ≤ 40 := by omega
    clear h40
    cases hv : (validB l && okB x)
    all_goals
      have HV := Lib.hid hv
      clear hv
      go_enter Try.func7, Try.ntmps7
      go_wp2_with fail
      refine (awake_any _).mono ?_
      rintro e w1 ⟨rfl, hb1⟩
      have y1 : w1.cell? ⟨w.heap.size, 0, none⟩ = some (.int .i64 x.a) := hb1.keep (by simp)
      have y2 : w1.cell? ⟨w.heap.size, 1, none⟩ = some (.int .i64 x.n) := hb1.keep (by simp)
      have y3 : w1.cell? ⟨w.heap.size, 2, none⟩ = some (.int .i64 x.s) := hb1.keep (by simp)
      have hB1 := ((Below.refl w.heap.size w).onAlloc _).on hb1
      clear hb1
      go_wp2_with fail
      refine (copied_any l _ _ _ (hr.keep hB1) (by omega)).mono ?_
      rintro e w2 ⟨v2, rfl, ho2, hb2⟩
      have y1 := hb2.keep y1
      have y2 := hb2.keep y2
      have y3 := hb2.keep y3
      obtain ⟨a2, c2, rfl, hv2⟩ := ho2.rd (by omega)
      have hB2 := hB1.on hb2
      clear ho2 hb2 hB1
      go_wp2_with fail
    · refine (put_no l x _ _ _ (hr.keep hB2) hw hxw HV.out).mono ?_
      rintro e w3 ⟨rfl, hb3⟩
      have y1 := hb3.keep y1
      have y2 := hb3.keep y2
      have y3 := hb3.keep y3
      have hB3 := hB2.on hb3
      have hv3 := hv2.keep hb3
      clear hb3 hB2 hv2
      go_wp2_with fail
      refine (rput_no l x _ _ _ (hr.keep hB3) hw hxw HV.out).mono ?_
      rintro e w4 ⟨rfl, hb4⟩
      have hB4 := hB3.on hb4
      have hv4 := hv3.keep hb4
      clear hb4 hB3 hv3 y1 y2 y3
      go_wp2_with fail
      refine (same_is [] [] _ _ 0 0 true _ (by decide) ⟨by simp, .inl rfl⟩ ⟨by simp, .inl rfl⟩).mono ?_
      rintro e w5 ⟨rfl, hb5⟩
      have hB5 := hB4.on hb5
      have hv5 := hv4.keep hb5
      go_wp2_with fail
      refine (same_is [] [] _ _ 0 0 true _ (by decide) ⟨by simp, .inl rfl⟩ ⟨by simp, .inl rfl⟩).mono ?_
      rintro e w6 ⟨rfl, hb6⟩
      have hB6 := hB5.on hb6
      have hv6 := hv5.keep hb6
      go_wp2_with fail
      refine (same_is l l _ _ _ _ true _ (sameB_refl _) (hr.keep hB6) hv6).mono ?_
      rintro e w7 ⟨rfl, hb7⟩
      have hB7 := hB6.on hb7
      go_wp2_with fail
      go_ret
      exact ⟨ret_bool (by simp), hB7⟩
    · obtain ⟨hv, hx⟩ : validB l = true ∧ okB x = true := by simpa using HV.out
      have HX := Lib.hid hx
      have HL := Lib.hid hv
      have hx' := (okB_iff x).1 hx
      obtain ⟨il, _⟩ := inL_facts l x.a x.n (validB_ok hv)
      have pl := putL_length l x
      clear hv hx
      refine (put_yes l x _ _ _ (hr.keep hB2) hw (by omega) HL.out HX.out).mono ?_
      rintro e w3 ⟨v3, m3, rfl, ho3, hm3, _, hb3⟩
      have y1 := hb3.keep y1
      have y2 := hb3.keep y2
      have y3 := hb3.keep y3
      have hB3 := hB2.on hb3
      have hv3 := hv2.keep hb3
      have HO3 := Lib.hid ho3
      have HM3 := Lib.hid hm3
      clear ho3 hm3 hb3 hB2 hv2
      go_wp2_with fail
      refine (rput_yes l x _ _ _ (hr.keep hB3) hw (by omega) HL.out HX.out).mono ?_
      rintro e w4 ⟨v4, m4, rfl, ho4, hm4, hb4⟩
      have hB4 := hB3.on hb4
      have hv4 := hv3.keep hb4
      obtain ⟨a3, c3, rfl, hr3⟩ := (HO3.out.keep hb4).rd (by omega)
      obtain ⟨a4, c4, rfl, hr4⟩ := (HM3.out.keep hb4).rd (by omega)
      obtain ⟨a5, c5, rfl, hr5⟩ := ho4.rd (by omega)
      obtain ⟨a6, c6, rfl, hr6⟩ := hm4.rd (by omega)
      clear hb4 hB3 hv3 HO3 HM3 ho4 hm4 y1 y2 y3
      go_wp2_with fail
      refine (same_is (putL l x) (putL l x) _ _ _ _ true _ (sameB_refl _) hr3 hr5).mono ?_
      rintro e w5 ⟨rfl, hb5⟩
      have hB5 := hB4.on hb5
      have hv5 := hv4.keep hb5
      go_wp2_with fail
      refine (same_is (inL l x.a x.n) (inL l x.a x.n) _ _ _ _ true _ (sameB_refl _) (hr4.keep hb5) (hr6.keep hb5)).mono ?_
      rintro e w6 ⟨rfl, hb6⟩
      have hB6 := hB5.on hb6
      have hv6 := hv5.keep hb6
      clear hb5 hr3 hr4 hr5 hr6 hv4 hv5
      go_wp2_with fail
      refine (same_is l l _ _ _ _ true _ (sameB_refl _) (hr.keep hB6) hv6).mono ?_
      rintro e w7 ⟨rfl, hb7⟩
      have hB7 := hB6.on hb7
      go_wp2_with fail
      go_ret
      exact ⟨ret_bool (by simp), hB7⟩
end Go.Proofs.Ytcalianponiioaa
