/-
  The walk of the law ExtentMaps.
  Conditions: none beyond that the arguments can be read.
-/
import Derived.Test.YtcalianponiioaaTgY
import Derived.Test.YtcalianponiioaaTgW
namespace Go.Proofs.Ytcalianponiioaa
set_option linter.unusedSimpArgs false
set_option linter.unusedVariables false
open Go.RowKit

theorem find_slot (l : List E) (p : Int) (h : validB l = true) : findV l p = (slotAt l p).getD 0 ∧ findW l p = (slotAt l p).isSome := by
  refine ⟨?_, ?_⟩
  · rw [findV_yes p h]; rfl
  · rw [findW_yes p h]; unfold findB slotAt; simp
theorem find_put_in (l : List E) (x : E) (p : Int) (hx : okB x = true) (hv : validB l = true) (h : x.a ≤ p ∧ p < x.a + x.n) : findV (putL l x) p = x.s + p - x.a ∧ findW (putL l x) p = true := by
  obtain ⟨h1, h2⟩ := find_slot (putL l x) p (putL_valid l x hx hv)
  rw [slotAt_put l x p hx hv, if_pos h] at h1 h2
  exact ⟨h1, h2⟩
theorem find_put_out (l : List E) (x : E) (p : Int) (hx : okB x = true) (hv : validB l = true) (h : ¬ (x.a ≤ p ∧ p < x.a + x.n)) : findV (putL l x) p = findV l p ∧ findW (putL l x) p = findW l p := by
  obtain ⟨h1, h2⟩ := find_slot (putL l x) p (putL_valid l x hx hv)
  obtain ⟨h3, h4⟩ := find_slot l p hv
  rw [slotAt_put l x p hx hv, if_neg h] at h1 h2
  exact ⟨h1.trans h3.symm, h2.trans h4.symm⟩
theorem find_cut_in (l : List E) (f n p : Int) (hp : withinB f n 65536 = true) (hv : validB l = true) (hn : 0 ≤ n) (h : f ≤ p ∧ p < f + n) : findV (cutL l f n) p = 0 ∧ findW (cutL l f n) p = false := by
  obtain ⟨h1, h2⟩ := find_slot (cutL l f n) p (cutL_valid l f n hn hv)
  rw [slotAt_cut l f n p hp hv, if_pos h] at h1 h2
  exact ⟨h1, h2⟩
theorem find_cut_out (l : List E) (f n p : Int) (hp : withinB f n 65536 = true) (hv : validB l = true) (hn : 0 ≤ n) (h : ¬ (f ≤ p ∧ p < f + n)) : findV (cutL l f n) p = findV l p ∧ findW (cutL l f n) p = findW l p := by
  obtain ⟨h1, h2⟩ := find_slot (cutL l f n) p (cutL_valid l f n hn hv)
  obtain ⟨h3, h4⟩ := find_slot l p hv
  rw [slotAt_cut l f n p hp hv, if_neg h] at h1 h2
  exact ⟨h1.trans h3.symm, h2.trans h4.symm⟩

section
open Go.ChangeShapes Go.WideShapes Go.ChangeAt
variable {H : Type} {enc : TypeId × Value → H} {w : World}
theorem pair_size {cs : Array Value} (h : cs.size = 2) : ∃ c0 c1, cs = #[c0, c1] := by
  obtain ⟨l⟩ := cs
  match l, h with
  | [c0, c1], _ => exact ⟨c0, c1, rfl⟩
theorem open_pair {r : Reach} {b0 : Nat} {v : Value} {d : DataW H} {p : List MemPlace} (hv : Value.okWide Try.prog w r b0 44 v) (h : DataW.Trod enc Try.prog w 0 (fun _ => true) true 44 v d p) :
    ∃ f n : Int, v = .agg #[.int .u8 f, .int .u8 n] ∧ (0 ≤ f ∧ f ≤ 255) ∧ (0 ≤ n ∧ n ≤ 255) := by
  have hce : Try.prog.cellsOf 5 = 1 := by kernel_rfl
  obtain ⟨cs, rfl, hsz, _⟩ : ∃ cs, v = .agg cs ∧ cs.size = Try.prog.cellsOf 44 ∧ Row.okWide Try.prog w r b0 44 cs := by
    simpa [Value.okWide, Try.underlying44] using hv
  rw [show Try.prog.cellsOf 44 = 2 by kernel_rfl] at hsz
  obtain ⟨c0, c1, rfl⟩ := pair_size hsz
  obtain ⟨fuel, hf⟩ := h
  obtain ⟨xs, m, _, _, _, hl, hel⟩ := DataW.trod_array Try.underlying44 hf
  have e0 := hel 0 (by omega)
  have e1 := hel 1 (by omega)
  rw [hce] at e0 e1
  have x0 : xs[0]? = some (xs[0]'(by omega)) := List.getElem?_eq_getElem (by omega)
  have x1 : xs[1]? = some (xs[1]'(by omega)) := List.getElem?_eq_getElem (by omega)
  obtain ⟨n0, k0, _, w0⟩ := DataW.trod_int Try.underlying5 (e0.trans x0)
  obtain ⟨n1, k1, _, w1⟩ := DataW.trod_int Try.underlying5 (e1.trans x1)
  simp [Value.cells] at k0 k1
  subst k0 k1
  exact ⟨n0, n1, rfl, bounds_u8 w0, bounds_u8 w1⟩
end

set_option maxRecDepth 100000 in
set_option maxHeartbeats 4000000 in
theorem law_maps (l : List E) (x : E) (f n : Int) (a : Option Addr) (c : Nat) (w : World) (hl : l.length ≤ 9223372036854775807 ∧ l.length ≤ c ∧ c ≤ 9223372036854775807) (hr : l.length ≤ 46912496118443 → Rd w a l) (hw : wfL l) (hxw : x.wf) (hf : 0 ≤ f ∧ f ≤ 255) (hn : 0 ≤ n ∧ n ≤ 255) :
    Calls Try.prog 9 #[.slice a l.length c, .agg #[.int .i64 x.a, .int .i64 x.n, .int .i64 x.s], .agg #[.int .u8 f, .int .u8 n]] w fun e w' => e = .returned (.bool true) ∧ Below w.heap.size w w' := by
  have hlen := hl.1
  by_cases h20 : 20 < l.length
  · clear hr
    have hd : decide ((20 : Int) < l.length) = true := decide_eq_true (by omega)
    go_enter Try.func9, Try.ntmps9
    go_wp2_with fail
    refine (awake_any _).mono ?_
    rintro e w1 ⟨rfl, hb1⟩
    go_wp2_with fail
    go_ret
    exact ⟨rfl, (((Below.refl w.heap.size w).onAlloc _).onAlloc _).on hb1⟩
  · have hr := hr (by omega)
    have hd : decide ((20 : Int) < l.length) = false := decide_eq_false (by omega)
    have h20' : l.length ≤ 20 := by omega
    clear h20
    cases hv : validB l
    · have HV := Lib.hid hv
      clear hv
      go_enter Try.func9, Try.ntmps9
      go_wp2_with fail
      refine (awake_any _).mono ?_
      rintro e w1 ⟨rfl, hb1⟩
      have y1 : w1.cell? ⟨w.heap.size, 0, none⟩ = some (.int .i64 x.a) := hb1.keep (by simp)
      have y2 : w1.cell? ⟨w.heap.size, 1, none⟩ = some (.int .i64 x.n) := hb1.keep (by simp)
      have y3 : w1.cell? ⟨w.heap.size, 2, none⟩ = some (.int .i64 x.s) := hb1.keep (by simp)
      have z1 : w1.cell? ⟨w.heap.size + 1, 0, none⟩ = some (.int .u8 f) := hb1.keep (by simp)
      have z2 : w1.cell? ⟨w.heap.size + 1, 1, none⟩ = some (.int .u8 n) := hb1.keep (by simp)
      have hB1 := (((Below.refl w.heap.size w).onAlloc _).onAlloc _).on hb1
      clear hb1
      go_wp2_with fail
      refine (rvalid_is l _ _ _ _ HV.out (hr.keep hB1) hw).mono ?_
      rintro e w2 ⟨rfl, hb2⟩
      have hB2 := hB1.on hb2
      go_wp2_with fail
      go_ret
      exact ⟨rfl, hB2⟩
    · cases hx : okB x
      · have HV := Lib.hid hv
        have HX := Lib.hid hx
        clear hv hx
        go_enter Try.func9, Try.ntmps9
        go_wp2_with fail
        refine (awake_any _).mono ?_
        rintro e w1 ⟨rfl, hb1⟩
        have y1 : w1.cell? ⟨w.heap.size, 0, none⟩ = some (.int .i64 x.a) := hb1.keep (by simp)
        have y2 : w1.cell? ⟨w.heap.size, 1, none⟩ = some (.int .i64 x.n) := hb1.keep (by simp)
        have y3 : w1.cell? ⟨w.heap.size, 2, none⟩ = some (.int .i64 x.s) := hb1.keep (by simp)
        have z1 : w1.cell? ⟨w.heap.size + 1, 0, none⟩ = some (.int .u8 f) := hb1.keep (by simp)
        have z2 : w1.cell? ⟨w.heap.size + 1, 1, none⟩ = some (.int .u8 n) := hb1.keep (by simp)
        have hB1 := (((Below.refl w.heap.size w).onAlloc _).onAlloc _).on hb1
        clear hb1
        go_wp2_with fail
        refine (rvalid_is l _ _ _ _ HV.out (hr.keep hB1) hw).mono ?_
        rintro e w2 ⟨rfl, hb2⟩
        have y1 := hb2.keep y1
        have y2 := hb2.keep y2
        have y3 := hb2.keep y3
        have hB2 := hB1.on hb2
        go_wp2_with fail
        refine (one_is _ _ _ _ _ HX.out).mono ?_
        rintro e w3 ⟨rfl, hb3⟩
        have hB3 := hB2.on hb3
        go_wp2_with fail
        go_ret
        exact ⟨rfl, hB3⟩
      · have HV := Lib.hid hv
        have HX := Lib.hid hx
        obtain ⟨g1, g2, g3, g4, g5⟩ := (okB_iff x).1 hx
        have HP := Lib.hid (putL_valid l x hx hv)
        have HW : Hid (withinB f n 65536 = true) := Lib.hid (by simp [withinB]; omega)
        have HC := Lib.hid (cutL_valid (putL l x) f n (by omega) HP.out)
        have pl := valid_short HP.out
        have cl := valid_short HC.out
        clear hv hx
        go_enter Try.func9, Try.ntmps9
        go_wp2_with fail
        refine (awake_any _).mono ?_
        rintro e w1 ⟨rfl, hb1⟩
        have y1 : w1.cell? ⟨w.heap.size, 0, none⟩ = some (.int .i64 x.a) := hb1.keep (by simp)
        have y2 : w1.cell? ⟨w.heap.size, 1, none⟩ = some (.int .i64 x.n) := hb1.keep (by simp)
        have y3 : w1.cell? ⟨w.heap.size, 2, none⟩ = some (.int .i64 x.s) := hb1.keep (by simp)
        have z1 : w1.cell? ⟨w.heap.size + 1, 0, none⟩ = some (.int .u8 f) := hb1.keep (by simp)
        have z2 : w1.cell? ⟨w.heap.size + 1, 1, none⟩ = some (.int .u8 n) := hb1.keep (by simp)
        have hB1 := (((Below.refl w.heap.size w).onAlloc _).onAlloc _).on hb1
        clear hb1
        go_wp2_with fail
        refine (rvalid_is l _ _ _ _ HV.out (hr.keep hB1) hw).mono ?_
        rintro e w2 ⟨rfl, hb2⟩
        have y1 := hb2.keep y1
        have y2 := hb2.keep y2
        have y3 := hb2.keep y3
        have z1 := hb2.keep z1
        have z2 := hb2.keep z2
        have hB2 := hB1.on hb2
        clear hB1 hb2
        go_wp2_with fail
        refine (one_is _ _ _ _ _ HX.out).mono ?_
        rintro e w3 ⟨rfl, hb3⟩
        have y1 := hb3.keep y1
        have y2 := hb3.keep y2
        have y3 := hb3.keep y3
        have z1 := hb3.keep z1
        have z2 := hb3.keep z2
        have hB3 := hB2.on hb3
        clear hB2 hb3
        go_wp2_with fail
        refine wp_region_next (by kernel_rfl) (by kernel_rfl) ?_
        repeat (go_big_quiet_step (fail))
        refine wpQuiet_nil ?_
        intro _ hw'
        obtain ⟨nq, hw''⟩ := hw'
        subst hw''
        have hB4 := hB3.onNext nq
        have y1 := (World.below_next w3 nq).keep y1
        have y2 := (World.below_next w3 nq).keep y2
        have y3 := (World.below_next w3 nq).keep y3
        clear hB3 z1 z2
        generalize w3.next nq = w4 at *
        go_wp2_with fail
        refine (put_yes l x _ _ _ (hr.keep hB4) hw (by omega) HV.out HX.out).mono ?_
        rintro e w5 ⟨v5, m5, rfl, ho5, hm5, _, hb5⟩
        have y1 := hb5.keep y1
        have y2 := hb5.keep y2
        have y3 := hb5.keep y3
        have hB5 := hB4.on hb5
        obtain ⟨a5, c5, rfl, hr5⟩ := ho5.rd (by omega)
        clear hB4 hb5 ho5 hm5
        go_wp2_with fail
        refine (cut_yes (putL l x) f n _ _ _ hr5 (wfL_of_ok (validB_ok HP.out)) (by omega) HP.out HW.out).mono ?_
        rintro e w6 ⟨v6, m6, rfl, ho6, hm6, _, hb6⟩
        have y1 := hb6.keep y1
        have y2 := hb6.keep y2
        have y3 := hb6.keep y3
        have hr5 := hr5.keep hb6
        have hB6 := hB5.on hb6
        obtain ⟨a7, c7, rfl, hr7⟩ := ho6.rd (by omega)
        have HR0 := Lib.hid (hr.keep hB6)
        have HR5 := Lib.hid hr5
        have HR7 := Lib.hid hr7
        clear hB5 hb6 ho6 hm6 hr5 hr7 hr
        go_wp2_with fail
        go_loopw [15] (fun i wr => ∃ k : Nat, k ≤ 60 ∧ i = .int .i64 k ∧ Below w6.heap.size w6 wr) (fun i _ => 60 - (intOf i).toNat)
        case atStart => exact ⟨0, by omega, rfl, Below.refl _ _⟩
        case round =>
          obtain ⟨k, hk, rfl, hB⟩ := hrel
          by_cases hlt : k < 60
          · have y1 := hB.keep y1
            have y2 := hB.keep y2
            have y3 := hB.keep y3
            go_wp2_with fail
            refine (rfind_any l k _ _ _ (HR0.out.keep hB) hw).mono ?_
            rintro e w8 ⟨rfl, hb8⟩
            have y1 := hb8.keep y1
            have y2 := hb8.keep y2
            have y3 := hb8.keep y3
            have hB8 := hB.on hb8
            clear hb8 hB
            by_cases b1 : x.a ≤ k
            · have d1 : decide (x.a ≤ (k : Int)) = true := decide_eq_true b1
              by_cases b2 : (k : Int) < x.a + x.n
              · have d2 : decide ((k : Int) < x.a + x.n) = true := decide_eq_true b2
                obtain ⟨q1, q2⟩ := find_put_in l x k HX.out HV.out ⟨b1, b2⟩
                have Q1 := Lib.hid q1
                have Q2 := Lib.hid q2
                clear b2 q1 q2
                by_cases c1 : f ≤ k
                · have d3 : decide (f ≤ (k : Int)) = true := decide_eq_true c1
                  by_cases c2 : (k : Int) < f + n
                  · have d4 : decide ((k : Int) < f + n) = true := decide_eq_true c2
                    obtain ⟨s1, s2⟩ := find_cut_in (putL l x) f n k HW.out HP.out (by omega) ⟨c1, c2⟩
                    have S1 := Lib.hid s1
                    have S2 := Lib.hid s2
                    clear c1 c2 s1 s2
                    go_wp2_with fail
                    refine (find_any (putL l x) k _ _ _ (HR5.out.keep hB8) (wfL_of_ok (validB_ok HP.out))).mono ?_
                    rintro e w9 ⟨rfl, hb9⟩
                    rw [Q1.out, Q2.out]
                    have hB9 := hB8.on hb9
                    clear hb9 hB8
                    go_wp2_with fail
                    refine (find_any (cutL (putL l x) f n) k _ _ _ (HR7.out.keep hB9) (wfL_of_ok (validB_ok HC.out))).mono ?_
                    rintro e w10 ⟨rfl, hb10⟩
                    rw [S1.out, S2.out]
                    have hB10 := hB9.on hb10
                    clear hb10 hB9
                    go_wp2_with fail
                    go_roundw
                    case rel => exact ⟨k + 1, by omega, by go_num, hB10⟩
                    case measure => simp [intOf]; omega
                  · have d4 : decide ((k : Int) < f + n) = false := decide_eq_false c2
                    obtain ⟨s1, s2⟩ := find_cut_out (putL l x) f n k HW.out HP.out (by omega) (fun h => c2 h.2)
                    rw [Q1.out] at s1
                    rw [Q2.out] at s2
                    have S1 := Lib.hid s1
                    have S2 := Lib.hid s2
                    clear c1 c2 s1 s2
                    go_wp2_with fail
                    refine (find_any (putL l x) k _ _ _ (HR5.out.keep hB8) (wfL_of_ok (validB_ok HP.out))).mono ?_
                    rintro e w9 ⟨rfl, hb9⟩
                    rw [Q1.out, Q2.out]
                    have hB9 := hB8.on hb9
                    clear hb9 hB8
                    go_wp2_with fail
                    refine (find_any (cutL (putL l x) f n) k _ _ _ (HR7.out.keep hB9) (wfL_of_ok (validB_ok HC.out))).mono ?_
                    rintro e w10 ⟨rfl, hb10⟩
                    rw [S1.out, S2.out]
                    have hB10 := hB9.on hb10
                    clear hb10 hB9
                    go_wp2_with fail
                    go_roundw
                    case rel => exact ⟨k + 1, by omega, by go_num, hB10⟩
                    case measure => simp [intOf]; omega
                · have d3 : decide (f ≤ (k : Int)) = false := decide_eq_false c1
                  obtain ⟨s1, s2⟩ := find_cut_out (putL l x) f n k HW.out HP.out (by omega) (fun h => c1 h.1)
                  rw [Q1.out] at s1
                  rw [Q2.out] at s2
                  have S1 := Lib.hid s1
                  have S2 := Lib.hid s2
                  clear c1 s1 s2
                  go_wp2_with fail
                  refine (find_any (putL l x) k _ _ _ (HR5.out.keep hB8) (wfL_of_ok (validB_ok HP.out))).mono ?_
                  rintro e w9 ⟨rfl, hb9⟩
                  rw [Q1.out, Q2.out]
                  have hB9 := hB8.on hb9
                  clear hb9 hB8
                  go_wp2_with fail
                  refine (find_any (cutL (putL l x) f n) k _ _ _ (HR7.out.keep hB9) (wfL_of_ok (validB_ok HC.out))).mono ?_
                  rintro e w10 ⟨rfl, hb10⟩
                  rw [S1.out, S2.out]
                  have hB10 := hB9.on hb10
                  clear hb10 hB9
                  go_wp2_with fail
                  go_roundw
                  case rel => exact ⟨k + 1, by omega, by go_num, hB10⟩
                  case measure => simp [intOf]; omega
              · have d2 : decide ((k : Int) < x.a + x.n) = false := decide_eq_false b2
                obtain ⟨q1, q2⟩ := find_put_out l x k HX.out HV.out (fun h => b2 h.2)
                generalize findV l k = u at *
                generalize findW l k = o at *
                have Q1 := Lib.hid q1
                have Q2 := Lib.hid q2
                clear b2 q1 q2
                by_cases c1 : f ≤ k
                · have d3 : decide (f ≤ (k : Int)) = true := decide_eq_true c1
                  by_cases c2 : (k : Int) < f + n
                  · have d4 : decide ((k : Int) < f + n) = true := decide_eq_true c2
                    obtain ⟨s1, s2⟩ := find_cut_in (putL l x) f n k HW.out HP.out (by omega) ⟨c1, c2⟩
                    have S1 := Lib.hid s1
                    have S2 := Lib.hid s2
                    clear c1 c2 s1 s2
                    go_wp2_with fail
                    refine (find_any (putL l x) k _ _ _ (HR5.out.keep hB8) (wfL_of_ok (validB_ok HP.out))).mono ?_
                    rintro e w9 ⟨rfl, hb9⟩
                    rw [Q1.out, Q2.out]
                    have hB9 := hB8.on hb9
                    clear hb9 hB8
                    go_wp2_with fail
                    refine (find_any (cutL (putL l x) f n) k _ _ _ (HR7.out.keep hB9) (wfL_of_ok (validB_ok HC.out))).mono ?_
                    rintro e w10 ⟨rfl, hb10⟩
                    rw [S1.out, S2.out]
                    have hB10 := hB9.on hb10
                    clear hb10 hB9
                    go_wp2_with fail
                    go_roundw
                    case rel => exact ⟨k + 1, by omega, by go_num, hB10⟩
                    case measure => simp [intOf]; omega
                  · have d4 : decide ((k : Int) < f + n) = false := decide_eq_false c2
                    obtain ⟨s1, s2⟩ := find_cut_out (putL l x) f n k HW.out HP.out (by omega) (fun h => c2 h.2)
                    rw [Q1.out] at s1
                    rw [Q2.out] at s2
                    have S1 := Lib.hid s1
                    have S2 := Lib.hid s2
                    clear c1 c2 s1 s2
                    go_wp2_with fail
                    refine (find_any (putL l x) k _ _ _ (HR5.out.keep hB8) (wfL_of_ok (validB_ok HP.out))).mono ?_
                    rintro e w9 ⟨rfl, hb9⟩
                    rw [Q1.out, Q2.out]
                    have hB9 := hB8.on hb9
                    clear hb9 hB8
                    go_wp2_with fail
                    refine (find_any (cutL (putL l x) f n) k _ _ _ (HR7.out.keep hB9) (wfL_of_ok (validB_ok HC.out))).mono ?_
                    rintro e w10 ⟨rfl, hb10⟩
                    rw [S1.out, S2.out]
                    have hB10 := hB9.on hb10
                    clear hb10 hB9
                    go_wp2_with fail
                    go_roundw
                    case rel => exact ⟨k + 1, by omega, by go_num, hB10⟩
                    case measure => simp [intOf]; omega
                · have d3 : decide (f ≤ (k : Int)) = false := decide_eq_false c1
                  obtain ⟨s1, s2⟩ := find_cut_out (putL l x) f n k HW.out HP.out (by omega) (fun h => c1 h.1)
                  rw [Q1.out] at s1
                  rw [Q2.out] at s2
                  have S1 := Lib.hid s1
                  have S2 := Lib.hid s2
                  clear c1 s1 s2
                  go_wp2_with fail
                  refine (find_any (putL l x) k _ _ _ (HR5.out.keep hB8) (wfL_of_ok (validB_ok HP.out))).mono ?_
                  rintro e w9 ⟨rfl, hb9⟩
                  rw [Q1.out, Q2.out]
                  have hB9 := hB8.on hb9
                  clear hb9 hB8
                  go_wp2_with fail
                  refine (find_any (cutL (putL l x) f n) k _ _ _ (HR7.out.keep hB9) (wfL_of_ok (validB_ok HC.out))).mono ?_
                  rintro e w10 ⟨rfl, hb10⟩
                  rw [S1.out, S2.out]
                  have hB10 := hB9.on hb10
                  clear hb10 hB9
                  go_wp2_with fail
                  go_roundw
                  case rel => exact ⟨k + 1, by omega, by go_num, hB10⟩
                  case measure => simp [intOf]; omega
            · have d1 : decide (x.a ≤ (k : Int)) = false := decide_eq_false b1
              obtain ⟨q1, q2⟩ := find_put_out l x k HX.out HV.out (fun h => b1 h.1)
              generalize findV l k = u at *
              generalize findW l k = o at *
              have Q1 := Lib.hid q1
              have Q2 := Lib.hid q2
              clear b1 q1 q2
              by_cases c1 : f ≤ k
              · have d3 : decide (f ≤ (k : Int)) = true := decide_eq_true c1
                by_cases c2 : (k : Int) < f + n
                · have d4 : decide ((k : Int) < f + n) = true := decide_eq_true c2
                  obtain ⟨s1, s2⟩ := find_cut_in (putL l x) f n k HW.out HP.out (by omega) ⟨c1, c2⟩
                  have S1 := Lib.hid s1
                  have S2 := Lib.hid s2
                  clear c1 c2 s1 s2
                  go_wp2_with fail
                  refine (find_any (putL l x) k _ _ _ (HR5.out.keep hB8) (wfL_of_ok (validB_ok HP.out))).mono ?_
                  rintro e w9 ⟨rfl, hb9⟩
                  rw [Q1.out, Q2.out]
                  have hB9 := hB8.on hb9
                  clear hb9 hB8
                  go_wp2_with fail
                  refine (find_any (cutL (putL l x) f n) k _ _ _ (HR7.out.keep hB9) (wfL_of_ok (validB_ok HC.out))).mono ?_
                  rintro e w10 ⟨rfl, hb10⟩
                  rw [S1.out, S2.out]
                  have hB10 := hB9.on hb10
                  clear hb10 hB9
                  go_wp2_with fail
                  go_roundw
                  case rel => exact ⟨k + 1, by omega, by go_num, hB10⟩
                  case measure => simp [intOf]; omega
                · have d4 : decide ((k : Int) < f + n) = false := decide_eq_false c2
                  obtain ⟨s1, s2⟩ := find_cut_out (putL l x) f n k HW.out HP.out (by omega) (fun h => c2 h.2)
                  rw [Q1.out] at s1
                  rw [Q2.out] at s2
                  have S1 := Lib.hid s1
                  have S2 := Lib.hid s2
                  clear c1 c2 s1 s2
                  go_wp2_with fail
                  refine (find_any (putL l x) k _ _ _ (HR5.out.keep hB8) (wfL_of_ok (validB_ok HP.out))).mono ?_
                  rintro e w9 ⟨rfl, hb9⟩
                  rw [Q1.out, Q2.out]
                  have hB9 := hB8.on hb9
                  clear hb9 hB8
                  go_wp2_with fail
                  refine (find_any (cutL (putL l x) f n) k _ _ _ (HR7.out.keep hB9) (wfL_of_ok (validB_ok HC.out))).mono ?_
                  rintro e w10 ⟨rfl, hb10⟩
                  rw [S1.out, S2.out]
                  have hB10 := hB9.on hb10
                  clear hb10 hB9
                  go_wp2_with fail
                  go_roundw
                  case rel => exact ⟨k + 1, by omega, by go_num, hB10⟩
                  case measure => simp [intOf]; omega
              · have d3 : decide (f ≤ (k : Int)) = false := decide_eq_false c1
                obtain ⟨s1, s2⟩ := find_cut_out (putL l x) f n k HW.out HP.out (by omega) (fun h => c1 h.1)
                rw [Q1.out] at s1
                rw [Q2.out] at s2
                have S1 := Lib.hid s1
                have S2 := Lib.hid s2
                clear c1 s1 s2
                go_wp2_with fail
                refine (find_any (putL l x) k _ _ _ (HR5.out.keep hB8) (wfL_of_ok (validB_ok HP.out))).mono ?_
                rintro e w9 ⟨rfl, hb9⟩
                rw [Q1.out, Q2.out]
                have hB9 := hB8.on hb9
                clear hb9 hB8
                go_wp2_with fail
                refine (find_any (cutL (putL l x) f n) k _ _ _ (HR7.out.keep hB9) (wfL_of_ok (validB_ok HC.out))).mono ?_
                rintro e w10 ⟨rfl, hb10⟩
                rw [S1.out, S2.out]
                have hB10 := hB9.on hb10
                clear hb10 hB9
                go_wp2_with fail
                go_roundw
                case rel => exact ⟨k + 1, by omega, by go_num, hB10⟩
                case measure => simp [intOf]; omega
          · go_wp2_with fail
            go_ret
            exact ⟨ret_bool (by simp), hB6.on hB⟩
end Go.Proofs.Ytcalianponiioaa
