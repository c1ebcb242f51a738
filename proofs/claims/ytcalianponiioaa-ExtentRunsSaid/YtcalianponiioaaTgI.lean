/-
  The law's own functions: copied, awake.
  Conditions: as each theorem says.
-/
import Derived.Test.YtcalianponiioaaTgE
import Derived.Test.YtcalianponiioaaTgH
import Derived.Test.YtcalianponiioaaTgR
namespace Go.Proofs.Ytcalianponiioaa
set_option linter.unusedSimpArgs false
set_option linter.unusedVariables false
open Go.RowKit

/-- A literal list, as the block that holds it. -/
theorem OwnE.lit (W : World) (cs : Array Value) (l : List E) (h : cs.toList = cellsL l) (hl : l.length ≤ maxLen) (B : Nat) (hB : B ≤ W.heap.size) : OwnE (W.alloc (.cells cs 33)) B (.slice (some ⟨W.heap.size, 0, none⟩) l.length l.length) l := by
  unfold OwnE
  rw [← h]
  exact World.ownsRow_lit W cs l.length hB hl (by have := congrArg List.length h; rw [cellsL_length] at this; simpa using this)
theorem Rd.lit (W : World) (cs : Array Value) (l : List E) (n : Nat) (hn : n = W.heap.size) (h : cs.toList = cellsL l) (hl : l.length ≤ 46912496118443) : Rd (W.alloc (.cells cs 33)) (some ⟨n, 0, none⟩) l := by
  subst hn
  obtain ⟨a, c, hv, hr⟩ := (OwnE.lit W cs l h (by unfold maxLen; omega) W.heap.size (Nat.le_refl _)).rd hl
  simp only [Value.slice.injEq] at hv
  rw [hv.1]
  exact hr

set_option maxHeartbeats 400000 in
theorem copied_any (l : List E) (a : Option Addr) (c : Nat) (w : World) (hr : Rd w a l) (hl : l.length ≤ 1000000000) :
    Calls Try.prog 12 #[.slice a l.length c] w fun e w' => ∃ v, e = .returned v ∧ OwnE w' w.heap.size v l ∧ Below w.heap.size w w' := by
  obtain ⟨i0, hi, hz0, hz1, hz2⟩ := info_parts infoE
  have h0 := OwnE.lit w #[] [] rfl (by decide) w.heap.size (Nat.le_refl _)
  have hs := ((hr.keep ((Below.refl _ _).onAlloc (.cells #[] 33))).source)
  have H0 := Lib.hid h0
  have HS := Lib.hid hs
  clear h0 hs
  go_enter Try.func12, Try.ntmps12
  go_wp2_with (at_builtin; refine wpList_append_xs _ rfl _ _ 22 rfl w.heap.size 33 i0 (.agg #[.int .i64 0, .int .i64 0, .int .i64 0]) 3 24 Try.underlying22 hi hz0 hz1 hz2 rfl (by decide) _ _ _ rfl H0.out _ _ _ _ rfl HS.out (by first | omega | (simp only [List.length_nil, List.length_append, List.length_cons]; omega)) (by first | (simp only [maxLen]; omega) | (simp only [maxLen, List.length_nil, List.length_append, List.length_cons]; omega)) (by first | omega | (simp only [World.size_alloc]; omega)) ?_; intro v1 w1 hown1 hgrow1 hwhere1)
  go_ret
  refine ⟨_, rfl, ?_, ((Below.refl _ _).onAlloc _).onGrow hgrow1 fun j hj => (H0.out.lt j hj).1⟩
  exact OwnE.append (l := []) hown1 (by simp)

set_option maxHeartbeats 1000000 in
theorem awake_any (w : World) : Calls Try.prog 11 #[] w fun e w' => e = .returned (.bool true) ∧ Below w.heap.size w w' := by
  have j1 : joinL [⟨0, 4, 10⟩, ⟨4, 2, 14⟩] = [⟨0, 6, 10⟩] := (sameB_iff _ _).1 (by decide)
  have c1 : cutL [⟨0, 4, 10⟩, ⟨4, 2, 14⟩] 2 2 = [⟨0, 2, 10⟩, ⟨4, 2, 14⟩] := (sameB_iff _ _).1 (by decide)
  have i1 : inL [⟨0, 4, 10⟩, ⟨4, 2, 14⟩] 2 2 = [⟨2, 2, 12⟩] := (sameB_iff _ _).1 (by decide)
  have v1 : validB [⟨0, 4, 10⟩, ⟨4, 2, 14⟩] = true := by decide
  have w1 : wfL [⟨0, 4, 10⟩, ⟨4, 2, 14⟩] := wfL_of_ok (validB_ok v1)
  have J1 := Lib.hid j1
  have C1 := Lib.hid c1
  have I1 := Lib.hid i1
  have V1 := Lib.hid v1
  have W1 := Lib.hid w1
  have P1 : Hid (withinB 2 2 65536 = true) := by exact Lib.hid (by decide)
  clear j1 c1 i1 v1 w1
  have hr0 := Rd.lit w #[.int .i64 0, .int .i64 4, .int .i64 10, .int .i64 4, .int .i64 2, .int .i64 14] [⟨0, 4, 10⟩, ⟨4, 2, 14⟩] _ rfl rfl (by simp)
  go_enter Try.func11, Try.ntmps11
  go_wp2_with fail
  refine (join_yes [⟨0, 4, 10⟩, ⟨4, 2, 14⟩] _ 2 _ hr0 W1.out (by simp) V1.out).mono ?_
  rintro e w1 ⟨v, rfl, ho1, hb1⟩
  rw [J1.out] at ho1
  have hB1 := ((Below.refl w.heap.size w).onAlloc _).on hb1
  have hr1 := hr0.keep hb1
  have HO1 := Lib.hid ho1
  clear hb1 hr0 ho1
  go_wp2_with fail
  refine (cut_yes [⟨0, 4, 10⟩, ⟨4, 2, 14⟩] 2 2 _ 2 _ hr1 W1.out (by simp) V1.out P1.out).mono ?_
  rintro e w2 ⟨v2, v3, rfl, ho2, ho3, _, hb2⟩
  rw [C1.out] at ho2
  rw [I1.out] at ho3
  have hB2 := hB1.on hb2
  have hr2 := hr1.keep hb2
  obtain ⟨a1, d1, rfl, hv1⟩ := (HO1.out.keep hb2).rd (by simp)
  obtain ⟨a2, d2, rfl, hv2⟩ := ho2.rd (by simp)
  obtain ⟨a3, d3, rfl, hv3⟩ := ho3.rd (by simp)
  clear hb2 hr1 HO1 ho2 ho3
  go_wp2_with fail
  refine (same_is [⟨0, 6, 10⟩] [⟨0, 6, 10⟩] _ _ _ 1 true _ (by decide) (hv1.keep ((Below.refl _ _).onAlloc _)) (Rd.lit _ _ _ _ rfl rfl (by simp))).mono ?_
  rintro e w3 ⟨rfl, hb3⟩
  have hB3 := (hB2.onAlloc _).on hb3
  have hv2 := (hv2.keep ((Below.refl _ _).onAlloc _)).keep hb3
  have hv3 := (hv3.keep ((Below.refl _ _).onAlloc _)).keep hb3
  have hr2 := (hr2.keep ((Below.refl _ _).onAlloc _)).keep hb3
  clear hb3 hv1
  go_wp2_with fail
  refine (same_is [⟨0, 2, 10⟩, ⟨4, 2, 14⟩] [⟨0, 2, 10⟩, ⟨4, 2, 14⟩] _ _ _ 2 true _ (by decide) (hv2.keep ((Below.refl _ _).onAlloc _)) (Rd.lit _ _ _ _ rfl rfl (by simp))).mono ?_
  rintro e w4 ⟨rfl, hb4⟩
  have hB4 := (hB3.onAlloc _).on hb4
  have hv3 := (hv3.keep ((Below.refl _ _).onAlloc _)).keep hb4
  have hr2 := (hr2.keep ((Below.refl _ _).onAlloc _)).keep hb4
  clear hb4 hv2
  go_wp2_with fail
  refine (same_is [⟨2, 2, 12⟩] [⟨2, 2, 12⟩] _ _ _ 1 true _ (by decide) (hv3.keep ((Below.refl _ _).onAlloc _)) (Rd.lit _ _ _ _ rfl rfl (by simp))).mono ?_
  rintro e w5 ⟨rfl, hb5⟩
  have hB5 := (hB4.onAlloc _).on hb5
  have hr2 := (hr2.keep ((Below.refl _ _).onAlloc _)).keep hb5
  clear hb5 hv3
  go_wp2_with fail
  refine (valid_is [⟨0, 4, 10⟩, ⟨4, 2, 14⟩] _ 2 _ true V1.out hr2 W1.out).mono ?_
  rintro e w6 ⟨rfl, hb6⟩
  have hB6 := hB5.on hb6
  go_wp2_with fail
  go_ret
  exact ⟨rfl, hB6⟩
end Go.Proofs.Ytcalianponiioaa
