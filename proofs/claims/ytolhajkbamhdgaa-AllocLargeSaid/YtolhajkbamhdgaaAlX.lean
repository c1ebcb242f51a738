/-
  The walk of the law AllocTake.
  Conditions: none beyond that the arguments can be read.
-/
import Derived.Test.YtolhajkbamhdgaaAlO
namespace Go.Proofs.Ytolhajkbamhdgaa
set_option linter.unusedSimpArgs false
set_option linter.unusedVariables false
open Go.RowKit

theorem atake_all (M : List Bool) (n h : Nat) (a : Option Addr) (c : Nat) (w : World) (hr : Rd w a (freeR M)) (hN : M.length ≤ 65536) (hh : h ≤ M.length) (hf : n ≤ area (freeF M) M.length) :
    Calls Try.prog 35 #[.agg #[.int .i64 M.length, .slice a (freeR M).length c], .int .i64 n, .int .i64 h] w (ATook M n h a w) := by
  by_cases h0 : n = 0
  · subst h0
    refine (atake_zero M.length (freeR M) h a c w hN hr (freeR_canon M) ((askB_iff _ _ _).2 ⟨by omega, by omega, by omega⟩)).mono fun e w' ⟨he, hb⟩ => ?_
    refine ⟨_, _, he, by rw [takeL_zero]; exact OwnE.nil _ _, ⟨a, c, ?_, ?_, ?_⟩, hb⟩
    · rw [takeL_zero, chgM_nil]
    · rw [takeL_zero, chgM_nil]; exact hr.keep hb
    · rw [takeL_zero, chgM_nil]; exact Fresh.self _ _ _
  · exact atake_yes M n h a c w hr hN hh (by omega) hf
theorem same35_is (M : List Bool) (N : Nat) (a a2 : Option Addr) (c c2 : Nat) (w : World) (hl : M.length = N) (hN : M.length ≤ 65536) (hrC : Rd w a (freeR M)) (hrD : RdM w a2 M) :
    Calls Try.prog 46 #[.agg #[.int .i64 N, .slice a (freeR M).length c], .slice a2 N c2] w fun e w' => e = .returned (.bool true) ∧ Below w.heap.size w w' := by
  subst hl
  exact same35_any M a a2 c c2 w hN hrC hrD
/-- m lies in block X, the request in block B. -/
structure TkS (w0 W : World) (X : Nat) (M : List Bool) (a : Option Addr) (c : Nat) (f g : Int) (an : Option Addr) : Prop where
  t0 : W.cell? ⟨X, 0, none⟩ = some (.int .i64 M.length)
  t1 : W.cell? ⟨X, 1, none⟩ = some (.slice a (freeR M).length c)
  r : Rd W a (freeR M)
  n : RdM W an M
  q0 : W.cell? ⟨w0.heap.size, 0, none⟩ = some (.int .i64 f)
  q1 : W.cell? ⟨w0.heap.size, 1, none⟩ = some (.int .i64 g)
  B : Below w0.heap.size w0 W
theorem TkS.later {w0 W W' : World} {X : Nat} {M : List Bool} {a an : Option Addr} {c : Nat} {f g : Int} (h : TkS w0 W X M a c f g an) (hb : Below W.heap.size W W') : TkS w0 W' X M a c f g an :=
  ⟨hb.keep h.t0, hb.keep h.t1, h.r.keep hb, h.n.keep hb, hb.keep h.q0, hb.keep h.q1, h.B.on hb⟩
set_option maxRecDepth 100000 in
set_option maxHeartbeats 4000000 in
theorem law_take35 (i : Int) (S : List Step35) (f g : Int) (a : Option Addr) (c : Nat) (w : World) (hi : 0 ≤ i ∧ i ≤ 255) (hr : RdS35 w a S) (hbf : -9223372036854775808 ≤ f ∧ f ≤ 9223372036854775807) (hbg : -9223372036854775808 ≤ g ∧ g ≤ 9223372036854775807) :
    Calls Try.prog 12 #[.int .u8 i, .slice a S.length c, .agg #[.int .i64 f, .int .i64 g]] w fun e w' => e = .returned (.bool true) ∧ Below w.heap.size w w' := by
  obtain ⟨n, rfl⟩ := Int.eq_ofNat_of_zero_le hi.1
  have hn : n ≤ 255 := by omega
  have hlen := hr.1
  have hk := (Below.refl w.heap.size w).onAlloc (.cells #[.int .i64 f, .int .i64 g] 71)
  have hr0 := hr.keep hk
  have HK := Lib.hid hk
  clear hk hr
  cases hff : (fewB35 S && decide (S.length ≤ 25))
  · have HF := Lib.hid hff
    clear hff
    go_enter Try.func12, Try.ntmps12
    go_wp2_with fail
    refine (awake35_any _).mono ?_
    rintro e w1 ⟨rfl, hb1⟩
    go_wp2_with fail
    refine (few35_is S a c _ (hr0.keep hb1) _ HF.out).mono ?_
    rintro e w2 ⟨rfl, hb2⟩
    have hB2 := (HK.out.on hb1).on hb2
    go_wp2_with fail
    go_ret
    exact ⟨rfl, hB2⟩
  have HF := Lib.hid hff
  clear hff
  have HS0 : Hid ((w.alloc (.cells #[.int .i64 f, .int .i64 g] 71)).cell? ⟨w.heap.size, 0, none⟩ = some (.int .i64 f) ∧ (w.alloc (.cells #[.int .i64 f, .int .i64 g] 71)).cell? ⟨w.heap.size, 1, none⟩ = some (.int .i64 g)) := Lib.hid ⟨by simp, by simp⟩
  go_enter Try.func12, Try.ntmps12
  go_wp2_with fail
  generalize w.alloc (.cells #[.int .i64 f, .int .i64 g] 71) = W0 at *
  refine (awake35_any _).mono ?_
  rintro e w1 ⟨rfl, hb1⟩
  go_wp2_with fail
  refine (few35_is S a c _ (hr0.keep hb1) _ HF.out).mono ?_
  rintro e w2 ⟨rfl, hb2⟩
  have hB2 := hb1.on hb2
  go_wp2_with fail
  have hff := HF.out
  simp only [Bool.and_eq_true, decide_eq_true_eq] at hff
  obtain ⟨h1, h2⟩ := hff
  have HFB := Lib.hid h1
  clear h1
  refine (build35_any n S a c _ hn (hr0.keep hB2) HFB.out h2).mono ?_
  rintro e w3 ⟨M, am, an, cm, cn, rfl, hMl, hrm, hrn, hb3⟩
  have hN : M.length ≤ 65536 := by omega
  have hB3 := (hB2.on hb3).onAlloc (.cells #[.int .i64 M.length, .slice am (freeR M).length cm] 58)
  have hka := (Below.refl w3.heap.size w3).onAlloc (.cells #[.int .i64 M.length, .slice am (freeR M).length cm] 58)
  have HV : Hid (TkS w (w3.alloc (.cells #[.int .i64 M.length, .slice am (freeR M).length cm] 58)) w3.heap.size M am cm f g an) :=
    Lib.hid ⟨by simp, by simp, hrm.keep hka, hrn.keep hka, hB3.keep HS0.out.1, hB3.keep HS0.out.2, HK.out.on hB3⟩
  have HZ := Lib.hid (lenL_free M hN)
  have hz1 := area_le (freeF M) M.length
  generalize hz : area (freeF M) M.length = z at *
  have HZZ := Lib.hid hz
  clear hMl hrm hrn hb3 hb1 hb2 hB2 hB3 hr0 HFB HF hka HS0 HK hz
  have t0 := HV.out.t0
  have t1 := HV.out.t1
  have q0 := HV.out.q0
  have q1 := HV.out.q1
  go_wp2_with fail
  generalize w3.alloc (.cells #[.int .i64 M.length, .slice am (freeR M).length cm] 58) = W3 at *
  generalize w3.heap.size = X at *
  cases hq : askB M.length f g
  · have HQ := Lib.hid hq
    clear hq
    refine (atake_arg M.length (freeR M) f g am cm _ hN HQ.out).mono ?_
    rintro e w4 ⟨rfl, hb4⟩
    have HV := Lib.hid (HV.out.later hb4)
    clear t0 t1 q0 q1
    have t0 := HV.out.t0
    have t1 := HV.out.t1
    have q0 := HV.out.q0
    have q1 := HV.out.q1
    clear hb4
    have HV := Lib.hid (HV.out.later ((Below.refl w4.heap.size w4).onAlloc (.cells #[.int .i64 0, .slice none 0 0] 58)))
    clear t0 t1 q0 q1
    have t0 := HV.out.t0
    have t1 := HV.out.t1
    have q0 := HV.out.q0
    have q1 := HV.out.q1
    go_wp2_with fail
    refine (qtake_arg M f g an cn _ HV.out.n hN HQ.out).mono ?_
    rintro e w5 ⟨rfl, hb5⟩
    have HV := Lib.hid (HV.out.later hb5)
    clear t0 t1 q0 q1
    have t0 := HV.out.t0
    have t1 := HV.out.t1
    have q0 := HV.out.q0
    have q1 := HV.out.q1
    clear hb5
    go_wp2_with fail
    refine (same_is [] [] none none 0 0 true _ rfl ⟨by simp, .inl rfl⟩ ⟨by simp, .inl rfl⟩).mono ?_
    rintro e w6 ⟨rfl, hb6⟩
    have HV := Lib.hid (HV.out.later hb6)
    clear t0 t1 q0 q1
    have t0 := HV.out.t0
    have t1 := HV.out.t1
    have q0 := HV.out.q0
    have q1 := HV.out.q1
    clear hb6
    go_wp2_with fail
    refine wp_region_next (by kernel_rfl) (by kernel_rfl) ?_
    repeat (go_big_quiet_step (fail))
    refine wpQuiet_nil ?_
    intro _ hw'
    obtain ⟨nq, hw''⟩ := hw'
    subst hw''
    go_wp2_with fail
    go_ret
    exact ⟨rfl, HV.out.B.onNext _⟩
  · have HQ := Lib.hid hq
    obtain ⟨p1, p2, p3⟩ := (askB_iff _ _ _).1 hq
    clear hq
    obtain ⟨n', rfl⟩ := Int.eq_ofNat_of_zero_le p1
    obtain ⟨h', rfl⟩ := Int.eq_ofNat_of_zero_le p2
    by_cases hfz : n' ≤ z
    · have hh : h' ≤ M.length := by omega
      have HTL := Lib.hid (takeL_wf hN (n := n') (h := h') (by rw [HZZ.out]; exact hfz)).2
      have HL := Lib.hid (chgM_length M (takeL M n' h') true)
      refine (atake_all M n' h' am cm _ HV.out.r hN hh (by rw [HZZ.out]; exact hfz)).mono ?_
      rintro e w4 ⟨v1, v2, rfl, ho1, ⟨a', c', rfl, hr', _⟩, hb4⟩
      obtain ⟨b1, d1, rfl, hr1⟩ := ho1.rd (by have := HTL.out; omega)
      have HV := Lib.hid (HV.out.later hb4)
      clear t0 t1 q0 q1
      have t0 := HV.out.t0
      have t1 := HV.out.t1
      have q0 := HV.out.q0
      have q1 := HV.out.q1
      generalize hM : chgM M (takeL M n' h') true = M' at *
      have HM := Lib.hid hM
      have hka := (Below.refl w4.heap.size w4).onAlloc (.cells #[.int .i64 M.length, .slice a' (freeR M').length c'] 58)
      have HR1 := Lib.hid (hr1.keep hka)
      have HX := Lib.hid (hr'.keep hka)
      have x0 : (w4.alloc (.cells #[.int .i64 M.length, .slice a' (freeR M').length c'] 58)).cell? ⟨w4.heap.size, 0, none⟩ = some (.int .i64 M.length) := by simp
      have x1 : (w4.alloc (.cells #[.int .i64 M.length, .slice a' (freeR M').length c'] 58)).cell? ⟨w4.heap.size, 1, none⟩ = some (.slice a' (freeR M').length c') := by simp
      have HV := Lib.hid (HV.out.later hka)
      clear t0 t1 q0 q1
      have t0 := HV.out.t0
      have t1 := HV.out.t1
      have q0 := HV.out.q0
      have q1 := HV.out.q1
      clear hb4 hr1 ho1 hr' hka hM
      go_wp2_with fail
      generalize w4.alloc (.cells #[.int .i64 M.length, .slice a' (freeR M').length c'] 58) = W4 at *
      generalize w4.heap.size = Y at *
      refine (qtake_yes M n' h' an cn _ HV.out.n hN hh (by rw [HZZ.out]; exact hfz)).mono ?_
      rintro e w5 ⟨v3, v4, rfl, ho3, ho4, hb5⟩
      rw [HM.out] at ho4
      obtain ⟨b3, d3, rfl, hr3⟩ := ho3.rd (by have := HTL.out; omega)
      obtain ⟨b', d', rfl, hrd'⟩ := ho4.rd (by rw [HL.out]; exact hN)
      rw [HL.out]
      have HV := Lib.hid (HV.out.later hb5)
      clear t0 t1 q0 q1
      have t0 := HV.out.t0
      have t1 := HV.out.t1
      have q0 := HV.out.q0
      have q1 := HV.out.q1
      have HR1 := Lib.hid (HR1.out.keep hb5)
      have HX := Lib.hid (HX.out.keep hb5)
      have HY := Lib.hid hrd'
      have HR3 := Lib.hid hr3
      replace x0 := hb5.keep x0
      replace x1 := hb5.keep x1
      clear hb5 ho3 ho4 hr3 hrd'
      go_wp2_with fail
      refine (same_is (takeL M n' h') (takeL M n' h') b1 b3 d1 d3 true _ (sameB_refl _) HR1.out HR3.out).mono ?_
      rintro e w6 ⟨rfl, hb6⟩
      have HV := Lib.hid (HV.out.later hb6)
      clear t0 t1 q0 q1
      have t0 := HV.out.t0
      have t1 := HV.out.t1
      have q0 := HV.out.q0
      have q1 := HV.out.q1
      have HX := Lib.hid (HX.out.keep hb6)
      have HY := Lib.hid (HY.out.keep hb6)
      replace x0 := hb6.keep x0
      replace x1 := hb6.keep x1
      clear hb6
      have hN' : M'.length ≤ 65536 := by rw [HL.out]; exact hN
      have e1 : decide (n' ≤ z) = true := decide_eq_true hfz
      have e2 : decide ((n' : Int) ≤ z) = true := decide_eq_true (by omega)
      go_wp2_with fail
      refine wp_region_next (by kernel_rfl) (by kernel_rfl) ?_
      repeat (go_big_quiet_step ((first | (go_at_call 46; exact Calls.next_of (same35_is M' M.length a' b' c' d' _ HL.out hN' (HX.out.keep (World.below_next _ _)) (HY.out.keep (World.below_next _ _)))) | (go_at_call 45; exact Calls.next_of (qfree_is M z an cn _ (by rw [HZZ.out]) (HV.out.n.keep (World.below_next _ _)) hN)))))
      refine wpQuiet_nil ?_
      intro _ hw'
      obtain ⟨nq, hw''⟩ := hw'
      subst hw''
      go_wp2_with fail
      go_ret
      exact ⟨rfl, HV.out.B.onNext _⟩
    · refine (atake_space M.length (freeR M) n' h' am cm _ hN HV.out.r (freeR_canon M) HQ.out (by rw [HZ.out]; omega)).mono ?_
      rintro e w4 ⟨rfl, hb4⟩
      have HV := Lib.hid (HV.out.later hb4)
      clear t0 t1 q0 q1
      have t0 := HV.out.t0
      have t1 := HV.out.t1
      have q0 := HV.out.q0
      have q1 := HV.out.q1
      clear hb4
      have HV := Lib.hid (HV.out.later ((Below.refl w4.heap.size w4).onAlloc (.cells #[.int .i64 0, .slice none 0 0] 58)))
      clear t0 t1 q0 q1
      have t0 := HV.out.t0
      have t1 := HV.out.t1
      have q0 := HV.out.q0
      have q1 := HV.out.q1
      have e1 : decide (z < n') = true := decide_eq_true (by omega)
      have e2 : decide ((z : Int) < n') = true := decide_eq_true (by omega)
      go_wp2_with fail
      refine (qtake_space M n' h' an cn _ HV.out.n hN HQ.out (by rw [HZZ.out]; omega)).mono ?_
      rintro e w5 ⟨rfl, hb5⟩
      have HV := Lib.hid (HV.out.later hb5)
      clear t0 t1 q0 q1
      have t0 := HV.out.t0
      have t1 := HV.out.t1
      have q0 := HV.out.q0
      have q1 := HV.out.q1
      clear hb5
      go_wp2_with fail
      refine (same_is [] [] none none 0 0 true _ rfl ⟨by simp, .inl rfl⟩ ⟨by simp, .inl rfl⟩).mono ?_
      rintro e w6 ⟨rfl, hb6⟩
      have HV := Lib.hid (HV.out.later hb6)
      clear t0 t1 q0 q1
      have t0 := HV.out.t0
      have t1 := HV.out.t1
      have q0 := HV.out.q0
      have q1 := HV.out.q1
      clear hb6
      go_wp2_with fail
      refine wp_region_next (by kernel_rfl) (by kernel_rfl) ?_
      repeat (go_big_quiet_step ((go_at_call 45; exact Calls.next_of (qfree_is M z an cn _ (by rw [HZZ.out]) (HV.out.n.keep (World.below_next _ _)) hN))))
      refine wpQuiet_nil ?_
      intro _ hw'
      obtain ⟨nq, hw''⟩ := hw'
      subst hw''
      go_wp2_with fail
      go_ret
      exact ⟨rfl, HV.out.B.onNext _⟩
end Go.Proofs.Ytolhajkbamhdgaa
