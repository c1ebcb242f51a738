/-
  The walk of the law RefcountNew.
  Conditions: none beyond that the arguments can be read.
-/
import Derived.Test.YtolhajkbamhdgaaRcM
namespace Go.Proofs.Ytolhajkbamhdgaa
set_option linter.unusedSimpArgs false
set_option linter.unusedVariables false
open Go.RowKit

theorem zeroL_nil : zeroL [] = [] := by
  show runsL (picks (zeroB []) 0) = []
  rw [picks_zero]
  exact runs_canon ⟨by simp, by simp⟩
theorem usedC_zeros (n : Nat) : usedC (List.replicate n 0) = 0 := by
  induction n with
  | zero => rfl
  | succ n ih => simp only [usedC, List.replicate_succ, List.map_cons, List.sum_cons] at ih ⊢; rw [ih]; rfl
theorem zeroL_zeros (n : Nat) (h0 : 0 < n) (hn : n ≤ 65536) : zeroL (List.replicate n 0) = [⟨0, n, 0⟩] := by
  refine (runs_is _ _ ⟨?_, by simp⟩ fun s => ?_).symm
  · intro x hx
    simp at hx
    subst hx
    exact ⟨rfl, (okB_iff _).2 ⟨by simp; omega, by simp, by simp, by simp; omega, by simp; omega⟩⟩
  · rw [has_picks _ _ (by simp; omega), has_one' _ _ ((okB_iff _).2 ⟨by simp; omega, by simp, by simp, by simp; omega, by simp; omega⟩)]
    simp only [List.length_replicate, zeroB, decide_eq_true_eq, Int.zero_add]
    constructor
    · rintro ⟨a, b⟩
      refine ⟨a, b, ?_⟩
      rw [List.getD_eq_getElem?_getD, List.getElem?_replicate, if_pos (by omega)]
      rfl
    · rintro ⟨a, b, _⟩
      exact ⟨a, b⟩
/-- The state behind the call of Add on the zero value. -/
structure NwS (w0 W : World) (T X : Nat) (v : Value) : Prop where
  t : W.cell? ⟨T, 0, none⟩ = some v
  x : W.cell? ⟨X, 0, none⟩ = some (.slice none 0 0)
  B : Below w0.heap.size w0 W
theorem NwS.later {w0 W W' : World} {T X : Nat} {v : Value} (h : NwS w0 W T X v) (hb : Below W.heap.size W W') : NwS w0 W' T X v := ⟨hb.keep h.t, hb.keep h.x, h.B.on hb⟩
def NwC (W3 : World) (v : Value) (wx : World) : Prop := v = .int .i64 2 ∧ Below W3.heap.size W3 wx
set_option maxRecDepth 100000 in
set_option maxHeartbeats 4000000 in
theorem law_new (i : Int) (w : World) (hi : -9223372036854775808 ≤ i ∧ i ≤ 9223372036854775807) :
    Calls Try.prog 7 #[.int .i64 i] w fun e w' => e = .returned (.bool true) ∧ Below w.heap.size w w' := by
  by_cases h : 0 ≤ i ∧ i ≤ 65536
  · obtain ⟨n, rfl⟩ := Int.eq_ofNat_of_zero_le h.1
    have hn : n ≤ 65536 := by omega
    clear h hi
    go_enter Try.func7, Try.ntmps7
    go_wp2_with fail
    refine (awake34_any _).mono ?_
    rintro e w1 ⟨rfl, hb1⟩
    go_wp2_with fail
    refine (new_yes n _ hn).mono ?_
    rintro e w2 ⟨v2, rfl, ho2, hb2⟩
    obtain ⟨a2, c2, rfl, hr2⟩ := ho2.rd (by simpa using hn)
    rw [List.length_replicate] at ho2 ⊢
    have hB2 := hb1.on hb2
    clear ho2 hb2 hb1
    go_upto_region 5 with fail
    generalize hW : World.alloc (World.alloc w2 _) _ = W3
    have hS : NwS w W3 w2.heap.size (w2.heap.size + 1) (.slice a2 n c2) := by
      rw [← hW]
      exact ⟨by simp, by simp, (hB2.onAlloc _).onAlloc _⟩
    have hk : Below w2.heap.size w2 W3 := by
      rw [← hW]
      exact ((Below.refl _ _).onAlloc _).onAlloc _
    have hX := hS.x
    have HS := Lib.hid hS
    have HW1 : Hid (wfL [⟨0, 1, 0⟩]) := Lib.hid (by intro x hx; simp at hx; subst hx; simp [E.wf])
    have HP1 : Hid (permB ([] : List Int).length [⟨0, 1, 0⟩] = false) := Lib.hid (by decide)
    have HK2 := Lib.hid hk
    clear hW hS hB2 hk
    go_cut [7] from 6 to 21 (fun v wx => NwC W3 v wx)
    case first =>
      go_region_held3 (fun w' => w'.cell? ⟨w2.heap.size + 1, 0, none⟩ = some (.slice none 0 0) ∧ Below W3.drew.heap.size W3.drew w')
        (first
          | exact ⟨hX, Below.refl _ _⟩
          | (have hH := ‹_ ∧ Below W3.drew.heap.size W3.drew _›; first | exact ⟨(HS.out.later ((Below.refl _ _).drew.on (hH.2.on hba))).x, hH.2.on hba⟩ | exact ⟨(HS.out.later ((Below.refl _ _).drew.on hB5)).x, hB5⟩ | exact ⟨(HS.out.later ((Below.refl _ _).drew.on (hB5.onAlloc _))).x, hB5.onAlloc _⟩ | exact ⟨(HS.out.later ((Below.refl _ _).drew.on (hH.2.onAlloc _))).x, hH.2.onAlloc _⟩ | exact ⟨(HS.out.later ((Below.refl _ _).drew.on (hB5.setCell (Nat.le_refl _) _))).x, hB5.setCell (Nat.le_refl _) _⟩ | exact ⟨(HS.out.later ((Below.refl _ _).drew.on (hB5.setCell hza _))).x, hB5.setCell hza _⟩))
        (first
          | (go_at_call 30; have hH := ‹_ ∧ Below W3.drew.heap.size W3.drew _›; refine (run34_any 0 1 _).mono ?_; rintro e wa ⟨ga, hga, rfl, hoa, hba⟩; have hza := (hH.2.on hba).size; (try (have hq1 := keepNew hba; have hx1 := hq1.1; have hf1 := hq1.2; clear hq1)))
          | (go_at_call 19; have hH := ‹_ ∧ Below W3.drew.heap.size W3.drew _›; have hrl := OwnE.rd' hoa (by simp); refine (add_no [] [⟨0, 1, 0⟩] none _ 0 1 _ (by simp) (by first | exact hrl | exact hrl.keep ((Below.refl _ _).onAlloc _)) HW1.out HP1.out).mono ?_; rintro e w5 ⟨rfl, hb5⟩; have hB5 := hH.2.on hb5; (try have hx5 := hb5.keep hx1); (try have hf5' := hb5.keepF hx1 hf1); (try (have hq1 := keepNew' hb5; have hx5 := hq1.1; have hf5' := hq1.2; clear hq1))))
      · have HQ : Hid (NwC W3 (.int .i64 2) (w5.alloc (.cells #[.slice none 0 0] 27))) := Lib.hid ⟨rfl, (Below.refl _ _).drew.on (hB5.onAlloc _)⟩
        clear hb5 hoa hba hga
        go_wp2_with fail
        go_meet
        exact HQ.out
      · have HQ : Hid (NwC W3 (.int .i64 2) (w5.setCell ⟨wa.heap.size, 0, none⟩ (.slice none 0 0))) := Lib.hid ⟨rfl, (Below.refl _ _).drew.on (hB5.setCell hza _)⟩
        clear hb5 hoa hba hga hx5 hf5'
        go_wp2_with fail
        go_meet
        exact HQ.out
      · have HQ : Hid (NwC W3 (.int .i64 2) (w5.setCell ⟨W3.heap.size, 0, none⟩ (.slice none 0 0))) := Lib.hid ⟨rfl, (Below.refl _ _).drew.on (hB5.setCell (Nat.le_refl _) _)⟩
        clear hb5 hoa hba hga hx5 hf5' hx1 hf1
        go_wp2_with fail
        go_meet
        exact HQ.out
    case rest =>
      obtain ⟨rfl, hbk⟩ := hcut
      replace HS := Lib.hid (HS.out.later hbk)
      replace HK2 := Lib.hid (HK2.out.on hbk)
      replace hX := HS.out.x
      clear hbk
      go_wp2_with fail
      refine (slots_any none 0 0 _ (by omega)).mono ?_
      rintro e w6 ⟨rfl, hb⟩
      replace HS := Lib.hid (HS.out.later hb)
      replace HK2 := Lib.hid (HK2.out.on hb)
      replace hX := HS.out.x
      clear hb
      go_wp2_with fail
      refine (used_is [] none 0 0 _ (rdI_nil _) (inR_nil _ _) rfl).mono ?_
      rintro e w7 ⟨rfl, hb⟩
      replace HS := Lib.hid (HS.out.later hb)
      replace HK2 := Lib.hid (HK2.out.on hb)
      replace hX := HS.out.x
      clear hb
      go_wp2_with fail
      refine (total_is [] none 0 0 _ (rdI_nil _) (inR_nil _ _) rfl).mono ?_
      rintro e w8 ⟨rfl, hb⟩
      replace HS := Lib.hid (HS.out.later hb)
      replace HK2 := Lib.hid (HK2.out.on hb)
      replace hX := HS.out.x
      clear hb
      go_wp2_with fail
      refine (zero_any [] none 0 _ (rdI_nil _)).mono ?_
      rintro e w9 ⟨z, rfl, hoz, hb⟩
      rw [zeroL_nil] at hoz
      obtain ⟨za, zc, rfl, _⟩ := hoz.rd (by simp)
      replace HS := Lib.hid (HS.out.later hb)
      replace HK2 := Lib.hid (HK2.out.on hb)
      replace hX := HS.out.x
      clear hb
      clear hoz
      have ht := HS.out.t
      have hBz := HS.out.B
      have HR2 := Lib.hid (hr2.keep HK2.out)
      have hR0 : Hid (inR 0 1000000000 (List.replicate n 0)) := Lib.hid (inR_mono (inR_zero n) (by omega) (by omega))
      have HLn : Hid ((List.replicate n (0 : Int)).length = n) := Lib.hid (by simp)
      have hcz := zero_any (List.replicate n 0) a2 c2 _ HR2.out
      rw [HLn.out] at hcz
      have HCZ := Lib.hid hcz
      clear hcz hr2
      go_wp2_with fail
      refine HCZ.out.mono ?_
      rintro e w10 ⟨z, rfl, hoz, hb⟩
      by_cases h0 : n = 0
      · subst h0
        rw [List.replicate_zero, zeroL_nil] at hoz
        obtain ⟨zb, zd, rfl, _⟩ := hoz.rd (by simp)
        replace HS := Lib.hid (HS.out.later hb)
        replace HK2 := Lib.hid (HK2.out.on hb)
        replace hX := HS.out.x
        clear hb
        replace ht := HS.out.t
        clear hoz HCZ hBz
        go_wp2_with fail
        refine (slots_any a2 0 c2 _ (by omega)).mono ?_
        rintro e w11 ⟨rfl, hb⟩
        replace HS := Lib.hid (HS.out.later hb)
        replace HK2 := Lib.hid (HK2.out.on hb)
        replace hX := HS.out.x
        clear hb
        replace ht := HS.out.t
        go_wp2_with fail
        refine (used_is [] a2 c2 0 _ ⟨by simp, .inl rfl⟩ (inR_nil _ _) rfl).mono ?_
        rintro e w12 ⟨rfl, hb⟩
        replace HS := Lib.hid (HS.out.later hb)
        replace HK2 := Lib.hid (HK2.out.on hb)
        replace hX := HS.out.x
        clear hb
        have hBz := HS.out.B
        go_wp2_with fail
        go_ret
        exact ⟨rfl, hBz⟩
      · rw [zeroL_zeros n (by omega) hn] at hoz
        obtain ⟨zb, zd, rfl, hrz⟩ := hoz.rd (by simp)
        have HRZ := Lib.hid hrz
        replace HR2 := Lib.hid (HR2.out.keep hb)
        replace HS := Lib.hid (HS.out.later hb)
        replace HK2 := Lib.hid (HK2.out.on hb)
        replace hX := HS.out.x
        clear hb
        replace ht := HS.out.t
        have d0 : ((n : Int) == 0) = false := by simp; omega
        have hn0 : 0 < n := by omega
        clear hoz HCZ hBz h0 hrz
        go_wp2_with fail
        refine (slots_any a2 n c2 _ hn).mono ?_
        rintro e w11 ⟨rfl, hb⟩
        replace HR2 := Lib.hid (HR2.out.keep hb)
        replace HRZ := Lib.hid (HRZ.out.keep hb)
        replace HS := Lib.hid (HS.out.later hb)
        replace HK2 := Lib.hid (HK2.out.on hb)
        replace hX := HS.out.x
        clear hb
        replace ht := HS.out.t
        go_wp2_with fail
        have hcu := used_is (List.replicate n 0) a2 c2 0 _ HR2.out hR0.out (usedC_zeros n)
        rw [HLn.out] at hcu
        refine hcu.mono ?_
        rintro e w12 ⟨rfl, hb⟩
        replace HRZ := Lib.hid (HRZ.out.keep hb)
        replace HS := Lib.hid (HS.out.later hb)
        replace HK2 := Lib.hid (HK2.out.on hb)
        replace hX := HS.out.x
        clear hb
        clear hcu
        go_wp2_with fail
        refine (run34_any 0 n _).mono ?_
        rintro e w13 ⟨gb, hgb, rfl, hob, hb⟩
        replace HRZ := Lib.hid (HRZ.out.keep hb)
        replace HS := Lib.hid (HS.out.later hb)
        replace HK2 := Lib.hid (HK2.out.on hb)
        replace hX := HS.out.x
        clear hb
        have HOB := Lib.hid (hob.rd' (by simp))
        clear hob
        go_wp2_with fail
        refine (same_is [⟨0, n, 0⟩] [⟨0, n, 0⟩] zb (some ⟨gb, 0, none⟩) zd 1 true _ (sameB_refl _) HRZ.out HOB.out).mono ?_
        rintro e w14 ⟨rfl, hb⟩
        replace HS := Lib.hid (HS.out.later hb)
        replace HK2 := Lib.hid (HK2.out.on hb)
        replace hX := HS.out.x
        clear hb
        have hBz := HS.out.B
        go_wp2_with fail
        go_ret
        exact ⟨rfl, hBz⟩
  · have h' : i < 0 ∨ 65536 < i := by omega
    go_enter Try.func7, Try.ntmps7
    go_wp2_with fail
    refine (awake34_any _).mono ?_
    rintro e w1 ⟨rfl, hb1⟩
    go_wp2_with fail
    refine (new_no i _ h').mono ?_
    rintro e w2 ⟨rfl, hb2⟩
    have hB2 := hb1.on hb2
    have HH := Lib.hid h'
    clear hb2 hb1 h h'
    go_upto_region 5 with fail
    generalize hW : World.alloc (World.alloc w2 _) _ = W3
    have hS : NwS w W3 w2.heap.size (w2.heap.size + 1) (.slice none 0 0) := by
      rw [← hW]
      exact ⟨by simp, by simp, (hB2.onAlloc _).onAlloc _⟩
    have hk : Below w2.heap.size w2 W3 := by
      rw [← hW]
      exact ((Below.refl _ _).onAlloc _).onAlloc _
    have hX := hS.x
    have HS := Lib.hid hS
    have HW1 : Hid (wfL [⟨0, 1, 0⟩]) := Lib.hid (by intro x hx; simp at hx; subst hx; simp [E.wf])
    have HP1 : Hid (permB ([] : List Int).length [⟨0, 1, 0⟩] = false) := Lib.hid (by decide)
    have HK2 := Lib.hid hk
    clear hW hS hB2 hk
    go_cut [7] from 6 to 21 (fun v wx => NwC W3 v wx)
    case first =>
      go_region_held3 (fun w' => w'.cell? ⟨w2.heap.size + 1, 0, none⟩ = some (.slice none 0 0) ∧ Below W3.drew.heap.size W3.drew w')
        (first
          | exact ⟨hX, Below.refl _ _⟩
          | (have hH := ‹_ ∧ Below W3.drew.heap.size W3.drew _›; first | exact ⟨(HS.out.later ((Below.refl _ _).drew.on (hH.2.on hba))).x, hH.2.on hba⟩ | exact ⟨(HS.out.later ((Below.refl _ _).drew.on hB5)).x, hB5⟩ | exact ⟨(HS.out.later ((Below.refl _ _).drew.on (hB5.onAlloc _))).x, hB5.onAlloc _⟩ | exact ⟨(HS.out.later ((Below.refl _ _).drew.on (hH.2.onAlloc _))).x, hH.2.onAlloc _⟩ | exact ⟨(HS.out.later ((Below.refl _ _).drew.on (hB5.setCell (Nat.le_refl _) _))).x, hB5.setCell (Nat.le_refl _) _⟩ | exact ⟨(HS.out.later ((Below.refl _ _).drew.on (hB5.setCell hza _))).x, hB5.setCell hza _⟩))
        (first
          | (go_at_call 30; have hH := ‹_ ∧ Below W3.drew.heap.size W3.drew _›; refine (run34_any 0 1 _).mono ?_; rintro e wa ⟨ga, hga, rfl, hoa, hba⟩; have hza := (hH.2.on hba).size; (try (have hq1 := keepNew hba; have hx1 := hq1.1; have hf1 := hq1.2; clear hq1)))
          | (go_at_call 19; have hH := ‹_ ∧ Below W3.drew.heap.size W3.drew _›; have hrl := OwnE.rd' hoa (by simp); refine (add_no [] [⟨0, 1, 0⟩] none _ 0 1 _ (by simp) (by first | exact hrl | exact hrl.keep ((Below.refl _ _).onAlloc _)) HW1.out HP1.out).mono ?_; rintro e w5 ⟨rfl, hb5⟩; have hB5 := hH.2.on hb5; (try have hx5 := hb5.keep hx1); (try have hf5' := hb5.keepF hx1 hf1); (try (have hq1 := keepNew' hb5; have hx5 := hq1.1; have hf5' := hq1.2; clear hq1))))
      · have HQ : Hid (NwC W3 (.int .i64 2) (w5.alloc (.cells #[.slice none 0 0] 27))) := Lib.hid ⟨rfl, (Below.refl _ _).drew.on (hB5.onAlloc _)⟩
        clear hb5 hoa hba hga
        go_wp2_with fail
        go_meet
        exact HQ.out
      · have HQ : Hid (NwC W3 (.int .i64 2) (w5.setCell ⟨wa.heap.size, 0, none⟩ (.slice none 0 0))) := Lib.hid ⟨rfl, (Below.refl _ _).drew.on (hB5.setCell hza _)⟩
        clear hb5 hoa hba hga hx5 hf5'
        go_wp2_with fail
        go_meet
        exact HQ.out
      · have HQ : Hid (NwC W3 (.int .i64 2) (w5.setCell ⟨W3.heap.size, 0, none⟩ (.slice none 0 0))) := Lib.hid ⟨rfl, (Below.refl _ _).drew.on (hB5.setCell (Nat.le_refl _) _)⟩
        clear hb5 hoa hba hga hx5 hf5' hx1 hf1
        go_wp2_with fail
        go_meet
        exact HQ.out
    case rest =>
      obtain ⟨rfl, hbk⟩ := hcut
      replace HS := Lib.hid (HS.out.later hbk)
      replace HK2 := Lib.hid (HK2.out.on hbk)
      replace hX := HS.out.x
      clear hbk
      go_wp2_with fail
      refine (slots_any none 0 0 _ (by omega)).mono ?_
      rintro e w6 ⟨rfl, hb⟩
      replace HS := Lib.hid (HS.out.later hb)
      replace HK2 := Lib.hid (HK2.out.on hb)
      replace hX := HS.out.x
      clear hb
      go_wp2_with fail
      refine (used_is [] none 0 0 _ (rdI_nil _) (inR_nil _ _) rfl).mono ?_
      rintro e w7 ⟨rfl, hb⟩
      replace HS := Lib.hid (HS.out.later hb)
      replace HK2 := Lib.hid (HK2.out.on hb)
      replace hX := HS.out.x
      clear hb
      go_wp2_with fail
      refine (total_is [] none 0 0 _ (rdI_nil _) (inR_nil _ _) rfl).mono ?_
      rintro e w8 ⟨rfl, hb⟩
      replace HS := Lib.hid (HS.out.later hb)
      replace HK2 := Lib.hid (HK2.out.on hb)
      replace hX := HS.out.x
      clear hb
      go_wp2_with fail
      refine (zero_any [] none 0 _ (rdI_nil _)).mono ?_
      rintro e w9 ⟨z, rfl, hoz, hb⟩
      rw [zeroL_nil] at hoz
      obtain ⟨za, zc, rfl, _⟩ := hoz.rd (by simp)
      replace HS := Lib.hid (HS.out.later hb)
      replace HK2 := Lib.hid (HK2.out.on hb)
      replace hX := HS.out.x
      clear hb
      clear hoz
      have ht := HS.out.t
      have hBz := HS.out.B
      rcases HH.out with h | h
      all_goals
        go_wp2_with fail
        go_ret
        exact ⟨rfl, hBz⟩
end Go.Proofs.Ytolhajkbamhdgaa
