/-
  The walks of the laws AllocValues, AllocTake.
  Conditions: none beyond that the arguments can be read.
-/
import Derived.Test.YtolhajkbamhdgaaAlO
namespace Go.Proofs.Ytolhajkbamhdgaa
set_option linter.unusedSimpArgs false
set_option linter.unusedVariables false
open Go.RowKit

/-- m lies in block X, the step in block B. -/
structure ValS (w0 W : World) (X : Nat) (M : List Bool) (a : Option Addr) (c : Nat) (x : Step35) (al : Option Addr) (cl : Nat) : Prop where
  t0 : W.cell? ⟨X, 0, none⟩ = some (.int .i64 M.length)
  t1 : W.cell? ⟨X, 1, none⟩ = some (.slice a (freeR M).length c)
  r : Rd W a (freeR M)
  s0 : W.cell? ⟨w0.heap.size, 0, none⟩ = some (.int .u8 x.k)
  s1 : W.cell? ⟨w0.heap.size, 1, none⟩ = some (.int .u8 x.n)
  s2 : W.cell? ⟨w0.heap.size, 2, none⟩ = some (.int .u8 x.h)
  s3 : W.cell? ⟨w0.heap.size, 3, none⟩ = some (.slice al x.l.length cl)
  rl : Rd W al x.l
  B : Below w0.heap.size w0 W
theorem ValS.later {w0 W W' : World} {X : Nat} {M : List Bool} {a : Option Addr} {c : Nat} {x : Step35} {al : Option Addr} {cl : Nat} (h : ValS w0 W X M a c x al cl) (hb : Below W.heap.size W W') : ValS w0 W' X M a c x al cl :=
  ⟨hb.keep h.t0, hb.keep h.t1, h.r.keep hb, hb.keep h.s0, hb.keep h.s1, hb.keep h.s2, hb.keep h.s3, h.rl.keep hb, h.B.on hb⟩
set_option maxRecDepth 100000 in
set_option maxHeartbeats 4000000 in
theorem law_values35 (i : Int) (S : List Step35) (x : Step35) (a al : Option Addr) (c cl : Nat) (w : World) (hi : 0 ≤ i ∧ i ≤ 255) (hr : RdS35 w a S) (hl : x.l.length ≤ 9223372036854775807) (hrl : x.l.length ≤ 46912496118443 → Rd w al x.l) (hw : wfL x.l) (bk : 0 ≤ x.k ∧ x.k ≤ 255) (bn : 0 ≤ x.n ∧ x.n ≤ 255) (bh : 0 ≤ x.h ∧ x.h ≤ 255) :
    Calls Try.prog 14 #[.int .u8 i, .slice a S.length c, .agg #[.int .u8 x.k, .int .u8 x.n, .int .u8 x.h, .slice al x.l.length cl]] w fun e w' => e = .returned (.bool true) ∧ Below w.heap.size w w' := by
  obtain ⟨n, rfl⟩ := Int.eq_ofNat_of_zero_le hi.1
  have hn : n ≤ 255 := by omega
  have hlen := hr.1
  have hk := (Below.refl w.heap.size w).onAlloc (.cells #[.int .u8 x.k, .int .u8 x.n, .int .u8 x.h, .slice al x.l.length cl] 80)
  have hr0 := hr.keep hk
  have HRL0 := Lib.hid hrl
  have HW := Lib.hid hw
  have HK := Lib.hid hk
  clear hk hr hrl hw
  cases hf : (fewB35 S && decide (S.length ≤ 25))
  · have HF := Lib.hid hf
    clear hf
    go_enter Try.func14, Try.ntmps14
    go_wp2_with fail
    refine (awake35_any _).mono ?_
    rintro e w1 ⟨rfl, hb1⟩
    go_wp2_with fail
    refine (few35_is S a c _ (hr0.keep hb1) _ HF.out).mono ?_
    rintro e w2 ⟨rfl, hb2⟩
    have hB2 := (HK.out.on hb1).on hb2
    go_wp2_with fail
    go_ret
    exact ⟨rfl, hB2⟩
  have HF := Lib.hid hf
  clear hf
  by_cases h8 : 8 < x.l.length
  · go_enter Try.func14, Try.ntmps14
    go_wp2_with fail
    refine (awake35_any _).mono ?_
    rintro e w1 ⟨rfl, hb1⟩
    go_wp2_with fail
    refine (few35_is S a c _ (hr0.keep hb1) _ HF.out).mono ?_
    rintro e w2 ⟨rfl, hb2⟩
    have hc2 := hb2.keep (hb1.keep (a := ⟨w.heap.size, 3, none⟩) (v := .slice al x.l.length cl) (by simp))
    have hB2 := (HK.out.on hb1).on hb2
    go_wp2_with fail
    go_ret
    exact ⟨rfl, hB2⟩
  have h8' : x.l.length ≤ 8 := by omega
  have HRL := Lib.hid (HRL0.out (by omega))
  have HS0 : Hid ((w.alloc (.cells #[.int .u8 x.k, .int .u8 x.n, .int .u8 x.h, .slice al x.l.length cl] 80)).cell? ⟨w.heap.size, 0, none⟩ = some (.int .u8 x.k) ∧ (w.alloc (.cells #[.int .u8 x.k, .int .u8 x.n, .int .u8 x.h, .slice al x.l.length cl] 80)).cell? ⟨w.heap.size, 1, none⟩ = some (.int .u8 x.n) ∧ (w.alloc (.cells #[.int .u8 x.k, .int .u8 x.n, .int .u8 x.h, .slice al x.l.length cl] 80)).cell? ⟨w.heap.size, 2, none⟩ = some (.int .u8 x.h) ∧ (w.alloc (.cells #[.int .u8 x.k, .int .u8 x.n, .int .u8 x.h, .slice al x.l.length cl] 80)).cell? ⟨w.heap.size, 3, none⟩ = some (.slice al x.l.length cl)) := Lib.hid ⟨by simp, by simp, by simp, by simp⟩
  clear h8 HRL0
  go_enter Try.func14, Try.ntmps14
  go_wp2_with fail
  generalize w.alloc (.cells #[.int .u8 x.k, .int .u8 x.n, .int .u8 x.h, .slice al x.l.length cl] 80) = W0 at *
  refine (awake35_any _).mono ?_
  rintro e w1 ⟨rfl, hb1⟩
  go_wp2_with fail
  refine (few35_is S a c _ (hr0.keep hb1) _ HF.out).mono ?_
  rintro e w2 ⟨rfl, hb2⟩
  have hB2 := hb1.on hb2
  have s3 := hB2.keep HS0.out.2.2.2
  go_wp2_with fail
  have hff := HF.out
  simp only [Bool.and_eq_true, decide_eq_true_eq] at hff
  obtain ⟨h1, h2⟩ := hff
  have HFB := Lib.hid h1
  clear h1
  refine (build35_any n S a c _ hn (hr0.keep hB2) HFB.out h2).mono ?_
  rintro e w3 ⟨M, am, an, cm, cn, rfl, hMl, hrm, hrn, hb3⟩
  have hN : M.length ≤ 65536 := by omega
  have hB3 := (hB2.on hb3).onAlloc (.cells #[.int .i64 M.length, .slice am (freeR M).length cm] 58)
  have hka := (Below.refl w3.heap.size w3).onAlloc (.cells #[.int .i64 M.length, .slice am (freeR M).length cm] 58)
  have HV : Hid (ValS w (w3.alloc (.cells #[.int .i64 M.length, .slice am (freeR M).length cm] 58)) w3.heap.size M am cm x al cl) :=
    Lib.hid ⟨by simp, by simp, hrm.keep hka, hB3.keep HS0.out.1, hB3.keep HS0.out.2.1, hB3.keep HS0.out.2.2.1, hB3.keep HS0.out.2.2.2, (HRL.out.keep HK.out).keep hB3, HK.out.on hB3⟩
  have HN := Lib.hid (hrn.keep hka)
  clear hMl hrm hrn hb3 hb1 hb2 hB2 hB3 hr0 HFB HF s3 hka HS0 HK HRL
  have t0 := HV.out.t0
  have t1 := HV.out.t1
  have s0 := HV.out.s0
  have s1 := HV.out.s1
  have s2 := HV.out.s2
  have s3 := HV.out.s3
  go_wp2_with fail
  refine (step35_any M x am an al cm cn cl _ hN HV.out.r HN.out HV.out.rl HW.out h8' bk bn bh).mono ?_
  rintro e w4 ⟨M', a', c', b', d', hl', rfl, hr', hd', _, _, hb4⟩
  have hN' : M'.length ≤ 65536 := by omega
  have HL := Lib.hid hl'
  have hka := (Below.refl w4.heap.size w4).onAlloc (.cells #[.int .i64 M.length, .slice a' (freeR M').length c'] 58)
  have x0 : (w4.alloc (.cells #[.int .i64 M.length, .slice a' (freeR M').length c'] 58)).cell? ⟨w4.heap.size, 0, none⟩ = some (.int .i64 M.length) := by simp
  have x1 : (w4.alloc (.cells #[.int .i64 M.length, .slice a' (freeR M').length c'] 58)).cell? ⟨w4.heap.size, 1, none⟩ = some (.slice a' (freeR M').length c') := by simp
  have HV := Lib.hid ((HV.out.later hb4).later hka)
  have HN := Lib.hid ((HN.out.keep hb4).keep hka)
  have HX := Lib.hid (hr'.keep hka)
  have HY := Lib.hid (hd'.keep hka)
  clear t0 t1 s0 s1 s2 s3 hb4 hr' hd' hka hl'
  have t0 := HV.out.t0
  have t1 := HV.out.t1
  have s0 := HV.out.s0
  have s1 := HV.out.s1
  have s2 := HV.out.s2
  have s3 := HV.out.s3
  go_wp2_with fail
  generalize w4.alloc (.cells #[.int .i64 M.length, .slice a' (freeR M').length c'] 58) = W4 at *
  generalize w4.heap.size = X at *
  have hcon := step35_any M' x a' b' al c' d' cl W4 hN' HX.out HY.out HV.out.rl HW.out h8' bk bn bh
  rw [HL.out] at hcon
  refine hcon.mono ?_
  clear hcon
  rintro e w5 ⟨M2, a2, c2, b2, d2, _, rfl, _, _, _, _, hb5⟩
  have HV := Lib.hid (HV.out.later hb5)
  have HN := Lib.hid (HN.out.keep hb5)
  have HX := Lib.hid (HX.out.keep hb5)
  have HY := Lib.hid (HY.out.keep hb5)
  replace x0 := hb5.keep x0
  replace x1 := hb5.keep x1
  clear t0 t1 s0 s1 s2 s3 hb5
  have t0 := HV.out.t0
  have t1 := HV.out.t1
  have s0 := HV.out.s0
  have s1 := HV.out.s1
  have s2 := HV.out.s2
  have s3 := HV.out.s3
  go_wp2_with fail
  refine (same35_any M am an cm cn _ hN HV.out.r HN.out).mono ?_
  rintro e w6 ⟨rfl, hb6⟩
  have HV := Lib.hid (HV.out.later hb6)
  have HX := Lib.hid (HX.out.keep hb6)
  have HY := Lib.hid (HY.out.keep hb6)
  replace x0 := hb6.keep x0
  replace x1 := hb6.keep x1
  clear t0 t1 s0 s1 s2 s3 hb6
  go_wp2_with fail
  have hcon := same35_any M' a' b' c' d' w6 hN' HX.out HY.out
  rw [HL.out] at hcon
  refine hcon.mono ?_
  clear hcon
  rintro e w7 ⟨rfl, hb7⟩
  have hB := HV.out.B.on hb7
  go_wp2_with fail
  go_ret
  exact ⟨rfl, hB⟩
end Go.Proofs.Ytolhajkbamhdgaa
