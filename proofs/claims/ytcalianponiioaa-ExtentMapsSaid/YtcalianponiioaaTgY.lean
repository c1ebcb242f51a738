/-
  The walk of the law ExtentRestores.
  Conditions: none beyond that the arguments can be read.
-/
import Derived.Test.YtcalianponiioaaTgU
import Derived.Test.YtcalianponiioaaTgV
namespace Go.Proofs.Ytcalianponiioaa
set_option linter.unusedSimpArgs false
set_option linter.unusedVariables false
open Go.RowKit

set_option maxHeartbeats 1000000 in
theorem law_restores (l : List E) (x : E) (a : Option Addr) (c : Nat) (w : World) (hl : l.length ≤ 9223372036854775807 ∧ l.length ≤ c ∧ c ≤ 9223372036854775807) (hr : l.length ≤ 46912496118443 → Rd w a l) (hw : wfL l) (hxw : x.wf) :
    Calls Try.prog 8 #[.slice a l.length c, .agg #[.int .i64 x.a, .int .i64 x.n, .int .i64 x.s]] w fun e w' => e = .returned (.bool true) ∧ Below w.heap.size w w' := by
  have hlen := hl.1
  by_cases h20 : 20 < l.length
  · clear hr
    have hd : decide ((20 : Int) < l.length) = true := decide_eq_true (by omega)
    go_enter Try.func8, Try.ntmps8
    go_wp2_with fail
    refine (awake_any _).mono ?_
    rintro e w1 ⟨rfl, hb1⟩
    go_wp2_with fail
    go_ret
    exact ⟨rfl, ((Below.refl w.heap.size w).onAlloc _).on hb1⟩
  · have hr := hr (by omega)
    have hd : decide ((20 : Int) < l.length) = false := decide_eq_false (by omega)
    have h20' : l.length ≤ 20 := by omega
    clear h20
    cases hv : validB l
    · have HV := Lib.hid hv
      clear hv
      go_enter Try.func8, Try.ntmps8
      go_wp2_with fail
      refine (awake_any _).mono ?_
      rintro e w1 ⟨rfl, hb1⟩
      have y1 : w1.cell? ⟨w.heap.size, 0, none⟩ = some (.int .i64 x.a) := hb1.keep (by simp)
      have y2 : w1.cell? ⟨w.heap.size, 1, none⟩ = some (.int .i64 x.n) := hb1.keep (by simp)
      have y3 : w1.cell? ⟨w.heap.size, 2, none⟩ = some (.int .i64 x.s) := hb1.keep (by simp)
      have hB1 := ((Below.refl w.heap.size w).onAlloc _).on hb1
      clear hb1
      go_wp2_with fail
      refine (rvalid_is l _ _ _ _ HV.out (hr.keep hB1) hw).mono ?_
      rintro e w2 ⟨rfl, hb2⟩
      have hB2 := hB1.on hb2
      go_wp2_with fail
      go_ret
      exact ⟨rfl, hB2⟩
    · cases hx : okB x
      · have HV := Lib.hid hv
        have HX := Lib.hid hx
        clear hv hx
        go_enter Try.func8, Try.ntmps8
        go_wp2_with fail
        refine (awake_any _).mono ?_
        rintro e w1 ⟨rfl, hb1⟩
        have y1 : w1.cell? ⟨w.heap.size, 0, none⟩ = some (.int .i64 x.a) := hb1.keep (by simp)
        have y2 : w1.cell? ⟨w.heap.size, 1, none⟩ = some (.int .i64 x.n) := hb1.keep (by simp)
        have y3 : w1.cell? ⟨w.heap.size, 2, none⟩ = some (.int .i64 x.s) := hb1.keep (by simp)
        have hB1 := ((Below.refl w.heap.size w).onAlloc _).on hb1
        clear hb1
        go_wp2_with fail
        refine (rvalid_is l _ _ _ _ HV.out (hr.keep hB1) hw).mono ?_
        rintro e w2 ⟨rfl, hb2⟩
        have y1 := hb2.keep y1
        have y2 := hb2.keep y2
        have y3 := hb2.keep y3
        have hB2 := hB1.on hb2
        go_wp2_with fail
        refine (one_is _ _ _ _ _ HX.out).mono ?_
        rintro e w3 ⟨rfl, hb3⟩
        have hB3 := hB2.on hb3
        go_wp2_with fail
        go_ret
        exact ⟨rfl, hB3⟩
      · have HV := Lib.hid hv
        have HX := Lib.hid hx
        have hx' := (okB_iff x).1 hx
        have HP := Lib.hid (putL_valid l x hx hv)
        have HI := Lib.hid (in_put l x hx hv)
        have HR := Lib.hid (restores l x hx hv)
        have HW : Hid (withinB x.a x.n 65536 = true) := Lib.hid (by simp [withinB]; omega)
        have HC := Lib.hid (cutL_valid (putL l x) x.a x.n (by omega) HP.out)
        have HCN : Hid (joinL (cutL (putL l x) x.a x.n) = cutL (putL l x) x.a x.n) := Lib.hid (by
          rw [cutL_eq _ _ _ (by omega) HP.out]
          exact joinL_join _)
        have HM := Lib.hid (inL_valid l x.a x.n hv)
        have pl := valid_short HP.out
        have cl := valid_short HC.out
        obtain ⟨il, _⟩ := inL_facts l x.a x.n (validB_ok hv)
        have jl := joinL_length l
        clear hv hx
        go_enter Try.func8, Try.ntmps8
        go_wp2_with fail
        refine (awake_any _).mono ?_
        rintro e w1 ⟨rfl, hb1⟩
        have y1 : w1.cell? ⟨w.heap.size, 0, none⟩ = some (.int .i64 x.a) := hb1.keep (by simp)
        have y2 : w1.cell? ⟨w.heap.size, 1, none⟩ = some (.int .i64 x.n) := hb1.keep (by simp)
        have y3 : w1.cell? ⟨w.heap.size, 2, none⟩ = some (.int .i64 x.s) := hb1.keep (by simp)
        have hB1 := ((Below.refl w.heap.size w).onAlloc _).on hb1
        clear hb1
        go_wp2_with fail
        refine (rvalid_is l _ _ _ _ HV.out (hr.keep hB1) hw).mono ?_
        rintro e w2 ⟨rfl, hb2⟩
        have y1 := hb2.keep y1
        have y2 := hb2.keep y2
        have y3 := hb2.keep y3
        have hB2 := hB1.on hb2
        clear hB1 hb2
        go_wp2_with fail
        refine (one_is _ _ _ _ _ HX.out).mono ?_
        rintro e w3 ⟨rfl, hb3⟩
        have y1 := hb3.keep y1
        have y2 := hb3.keep y2
        have y3 := hb3.keep y3
        have hB3 := hB2.on hb3
        clear hB2 hb3
        go_wp2_with fail
        refine (rjoin_yes l _ _ _ (hr.keep hB3) hw (by omega) HV.out).mono ?_
        rintro e w4 ⟨v4, rfl, ho4, hb4⟩
        have y1 := hb4.keep y1
        have y2 := hb4.keep y2
        have y3 := hb4.keep y3
        have hB4 := hB3.on hb4
        obtain ⟨a4, c4, rfl, hr4⟩ := ho4.rd (by omega)
        clear hB3 hb4 ho4
        go_wp2_with fail
        refine (put_yes l x _ _ _ (hr.keep hB4) hw (by omega) HV.out HX.out).mono ?_
        rintro e w5 ⟨v5, m5, rfl, ho5, hm5, _, hb5⟩
        have y1 := hb5.keep y1
        have y2 := hb5.keep y2
        have y3 := hb5.keep y3
        have hr4 := hr4.keep hb5
        have hB5 := hB4.on hb5
        obtain ⟨a5, c5, rfl, hr5⟩ := ho5.rd (by omega)
        obtain ⟨a6, c6, rfl, hr6⟩ := hm5.rd (by omega)
        clear hB4 hb5 ho5 hm5
        go_wp2_with fail
        refine (cut_yes (putL l x) x.a x.n _ _ _ hr5 (wfL_of_ok (validB_ok HP.out)) (by omega) HP.out HW.out).mono ?_
        rintro e w6 ⟨v6, m6, rfl, ho6, hm6, _, hb6⟩
        rw [HI.out] at hm6
        have y1 := hb6.keep y1
        have y2 := hb6.keep y2
        have y3 := hb6.keep y3
        have hr4 := hr4.keep hb6
        have hr6 := hr6.keep hb6
        have hB6 := hB5.on hb6
        obtain ⟨a7, c7, rfl, hr7⟩ := ho6.rd (by omega)
        obtain ⟨a8, c8, rfl, hr8⟩ := hm6.rd (by simp)
        clear hB5 hb6 ho6 hm6 hr5
        have HR8 := Lib.hid hr8
        clear hr8
        go_wp2_with fail
        refine (same_is [x] [x] _ _ _ 1 true _ (sameB_refl _) (HR8.out.keep ((Below.refl _ _).onAlloc _)) (Rd.lit _ _ _ _ rfl rfl (by simp))).mono ?_
        rintro e w7 ⟨rfl, hb7⟩
        have hb7 := ((Below.refl w6.heap.size w6).onAlloc _).on hb7
        have hr4 := hr4.keep hb7
        have hr6 := hr6.keep hb7
        have hr7 := hr7.keep hb7
        have hB7 := hB6.on hb7
        clear hB6 hb7 y1 y2 y3 HR8
        generalize hO : cutL (putL l x) x.a x.n = O at *
        generalize hM : inL l x.a x.n = M at *
        have HO := Lib.hid hO
        have HMI := Lib.hid hM
        clear hO hM
        have HR4 := Lib.hid hr4
        have HR6 := Lib.hid hr6
        have HR7 := Lib.hid hr7
        clear hr4 hr6 hr7
        go_wp2_with fail
        go_loopw [7, 12] (fun v i wr => ∃ (k : Nat) (a : Option Addr) (c : Nat), k ≤ M.length ∧ i = .int .i64 k ∧ v = .slice a (putAll O (M.take k)).length c ∧ Rd wr a (putAll O (M.take k)) ∧ Below w7.heap.size w7 wr) (fun _ i _ => M.length - (intOf i).toNat)
        case atStart => exact ⟨0, _, _, Nat.zero_le _, rfl, rfl, HR7.out, Below.refl _ _⟩
        case round =>
          obtain ⟨k, ak, ck, hk, rfl, rfl, hrk, hB⟩ := hrel
          have hm := validB_mono M k HM.out
          obtain ⟨f1, f2, f3⟩ := putAll_facts O HC.out HCN.out (M.take k) hm
          have fl := valid_short f1
          have F1 := Lib.hid f1
          clear f1 f2 f3 hm
          by_cases hlt : k < M.length
          · obtain ⟨b, o, rfl, hat⟩ := (HR6.out.keep hB).at (by omega)
            obtain ⟨h1, h2, h3⟩ := hat k _ (List.getElem?_eq_getElem hlt)
            have HX2 := Lib.hid (validB_ok HM.out _ (List.getElem_mem hlt))
            have HT := Lib.hid (putAll_take O M k hlt)
            generalize M[k] = z at *
            generalize putAll O (M.take k) = Q at *
            clear hat
            go_wp2_with fail
            refine (put_yes Q z _ _ _ hrk (wfL_of_ok (validB_ok F1.out)) (by omega) F1.out HX2.out).mono ?_
            rintro e w8 ⟨v8, m8, rfl, ho8, _, _, hb8⟩
            have ql := valid_short (putL_valid Q z HX2.out F1.out)
            rw [← HT.out] at ho8 ql
            obtain ⟨a8, c8, rfl, hr8⟩ := ho8.rd (by omega)
            have HR8 := Lib.hid hr8
            have hB8 := hB.on hb8
            clear ho8 hr8 hb8 hrk
            go_wp2_with fail
            go_roundw
            case rel => exact ⟨k + 1, _, _, by omega, by go_num, rfl, HR8.out, hB8⟩
            case measure => simp [intOf]; omega
          · have HE : Hid (putAll O (M.take k) = joinL l) := Lib.hid (by
              rw [List.take_of_length_le (by omega)]; exact HR.out)
            have HRK := Lib.hid hrk
            rw [HE.out] at HRK ⊢
            clear hrk
            go_wp2_with fail
            refine (same_is (joinL l) (joinL l) _ _ _ _ true _ (sameB_refl _) HRK.out (HR4.out.keep hB)).mono ?_
            rintro e w8 ⟨rfl, hb8⟩
            have hB8 := hB.on hb8
            go_wp2_with fail
            go_ret
            exact ⟨ret_bool (by simp), hB7.on hB8⟩
end Go.Proofs.Ytcalianponiioaa
