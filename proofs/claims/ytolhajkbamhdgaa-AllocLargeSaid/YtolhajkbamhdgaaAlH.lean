/-
  package alloc: Give.
  Conditions: as each theorem says.
-/
import Derived.Test.YtolhajkbamhdgaaAlF
import Derived.Test.YtolhajkbamhdgaaAlG
namespace Go.Proofs.Ytolhajkbamhdgaa
set_option linter.unusedSimpArgs false
set_option linter.unusedVariables false
open Go.RowKit

set_option maxRecDepth 100000 in
set_option maxHeartbeats 2000000 in
theorem give_range (N : Nat) (R l : List E) (a al : Option Addr) (c cl : Nat) (w : World) (hN : N ≤ 65536) (hr : Rd w al l) (hw : wfL l) (hl : l.length ≤ 1000000) (hp : (permB N l && onceB l) = false) :
    Calls Try.prog 47 #[.agg #[.int .i64 N, .slice a R.length c], .slice al l.length cl] w fun e w' => e = .returned (.tuple #[.agg #[.int .i64 0, .slice none 0 0], .int .i64 2]) ∧ Below w.heap.size w w' := by
  have HS0 := Lib.hid (MarkS.start w N a R.length c 58)
  have HR0 := Lib.hid (hr.keep (((Below.refl w.heap.size w).onAlloc (.cells #[.int .i64 N, .slice a R.length c] 58)).onAlloc (.cells #[.int .i64 0, .slice none 0 0] 58)))
  cases h : permB N l
  · have HP := Lib.hid h
    clear hp h hr
    go_enter Try.func47, Try.ntmps47
    go_wp2_with fail
    refine (aperm_no N l a al _ c cl _ hN HR0.out hw HP.out).mono ?_
    rintro e w1 ⟨rfl, hb1⟩
    have HS := Lib.hid (HS0.out.later hb1)
    clear hb1 HS0
    have r0 := HS.out.r0
    have r1 := HS.out.r1
    have f0 := HS.out.f0
    have f1 := HS.out.f1
    have b0 := HS.out.b0
    have b1 := HS.out.b1
    go_wp2_with fail
    refine bodyPost_ret (v := .tuple #[.agg #[.int .i64 0, .slice none 0 0], .int .i64 2]) ?_ rfl ⟨rfl, ?_⟩
    · simp [results, Try.results47, go_sem, r0, r1, f0, f1]
    · exact (HS.out.B.setCell (by simp) _).setCell (by simp) _
  · rw [h] at hp
    have HP := Lib.hid h
    have HO : Hid (onceB l = false) := Lib.hid (by simpa using hp)
    clear hp h hr
    go_enter Try.func47, Try.ntmps47
    go_wp2_with fail
    refine (aperm_yes N l a al _ c cl _ hN HR0.out hw HP.out hl).mono ?_
    rintro e w1 ⟨v1, rfl, _, hb1⟩
    rw [HO.out]
    have HS := Lib.hid (HS0.out.later hb1)
    clear hb1 HS0
    have r0 := HS.out.r0
    have r1 := HS.out.r1
    have f0 := HS.out.f0
    have f1 := HS.out.f1
    have b0 := HS.out.b0
    have b1 := HS.out.b1
    go_wp2_with fail
    refine bodyPost_ret (v := .tuple #[.agg #[.int .i64 0, .slice none 0 0], .int .i64 2]) ?_ rfl ⟨rfl, ?_⟩
    · simp [results, Try.results47, go_sem, r0, r1, f0, f1]
    · exact (HS.out.B.setCell (by simp) _).setCell (by simp) _
def GivePost (N : Nat) (R L : List E) (w : World) (e : Ending) (w' : World) : Prop :=
  Below w.heap.size w w' ∧ ((lenL (runsL (R ++ L)) = lenL R + lenL L ∧ ∃ v, e = .returned (.tuple #[.agg #[.int .i64 N, v], .int .i64 0]) ∧ ∃ a' c', v = .slice a' (runsL (R ++ L)).length c' ∧ OwnE w' w.heap.size v (runsL (R ++ L))) ∨
    (lenL (runsL (R ++ L)) ≠ lenL R + lenL L ∧ e = .returned (.tuple #[.agg #[.int .i64 0, .slice none 0 0], .int .i64 8])))
set_option maxRecDepth 100000 in
set_option maxHeartbeats 2000000 in
theorem give_any (N : Nat) (R l : List E) (a al : Option Addr) (c cl : Nat) (w : World) (hN : N ≤ 65536) (hrR : Rd w a R) (hc : Canon R) (hr : Rd w al l) (hw : wfL l) (hl : l.length ≤ 1000000) (hp : permB N l = true) (ho : onceB l = true) :
    Calls Try.prog 47 #[.agg #[.int .i64 N, .slice a R.length c], .slice al l.length cl] w (GivePost N R (runsL (flatL l)) w) := by
  have HS0 := Lib.hid (MarkS.start w N a R.length c 58)
  have hk := ((Below.refl w.heap.size w).onAlloc (.cells #[.int .i64 N, .slice a R.length c] 58)).onAlloc (.cells #[.int .i64 0, .slice none 0 0] 58)
  have HR0 := Lib.hid (hr.keep hk)
  have HRR := Lib.hid (hrR.keep hk)
  have HP := Lib.hid hp
  have HO := Lib.hid ho
  have hLc := (runs_facts (flatL l)).1
  have hLs := canon_short hLc
  have hWc := (runs_facts (R ++ runsL (flatL l))).1
  have hWs := canon_short hWc
  have hRs := canon_short hc
  have HWF : Hid (wfL (R ++ runsL (flatL l))) := Lib.hid (wfL_of_ok fun x hx => by
    rcases List.mem_append.1 hx with h | h
    · exact (hc.1 x h).2
    · exact (hLc.1 x h).2)
  have HM : ∀ L : List E, Canon L → ∀ x ∈ L, 0 ≤ x.n ∧ x.n ≤ 65536 := fun L hL x hx => by
    have := (okB_iff x).1 (hL.1 x hx).2
    omega
  have HM1 := Lib.hid (HM _ hLc)
  have HM2 := Lib.hid (HM _ hWc)
  have HM3 := Lib.hid (HM _ hc)
  obtain ⟨q1, q2⟩ := lenL_bd' _ 65536 HM1.out
  obtain ⟨q3, q4⟩ := lenL_bd' _ 65536 HM2.out
  obtain ⟨q5, q6⟩ := lenL_bd' _ 65536 HM3.out
  clear hp ho hr hrR hk hLc hWc HM hc
  generalize hLL : runsL (flatL l) = L at *
  have HLL := Lib.hid hLL
  clear hLL
  go_enter Try.func47, Try.ntmps47
  go_wp2_with fail
  have hcon := aperm_yes N l a al R.length c cl _ hN HR0.out hw HP.out hl
  rw [HO.out, HLL.out] at hcon
  refine hcon.mono ?_
  rintro e w1 ⟨v1, rfl, ho1, hb1⟩
  obtain ⟨a1, c1, rfl, hr1⟩ := ho1.rd (by omega)
  have HS := Lib.hid (HS0.out.later hb1)
  have HRR1 := Lib.hid (HRR.out.keep hb1)
  have HR1 := Lib.hid hr1
  have HSZ := Lib.hid hb1.size
  clear hb1 HS0 HRR ho1 hr1 hcon HR0
  have b1 := HS.out.b1
  go_wp2_with fail
  refine (concat_any R L a a1 c c1 w1.heap.size _ (by simp) (by simp) (HRR1.out.keep ((Below.refl _ _).onAlloc _)) (HR1.out.keep ((Below.refl _ _).onAlloc _)) (by omega) (by omega)).mono ?_
  rintro e w2 ⟨v2, rfl, ho2, hb2⟩
  obtain ⟨a2, c2, rfl, hr2⟩ := ho2.rd (by simp; omega)
  have hbb := ((Below.refl w1.heap.size w1).onAlloc (.cells #[.slice a R.length c, .slice a1 L.length c1] 32)).on hb2
  have HS := Lib.hid (HS.out.later hbb)
  have HRR2 := Lib.hid (HRR1.out.keep hbb)
  have HR2 := Lib.hid (HR1.out.keep hbb)
  have HRC := Lib.hid hr2
  have HSZ2 := Lib.hid (Nat.le_trans HSZ.out hbb.size)
  clear hb2 hbb ho2 hr2 HRR1 HR1 b1 HSZ
  go_wp2_with fail
  have hcon := runs_any (R ++ L) a2 c2 _ HRC.out HWF.out (by simp; omega)
  rw [List.length_append] at hcon
  refine hcon.mono ?_
  clear hcon
  rintro e w3 ⟨v3, rfl, ho3, hb3⟩
  have HS := Lib.hid (HS.out.later hb3)
  have HRR2 := Lib.hid (HRR2.out.keep hb3)
  have HR2 := Lib.hid (HR2.out.keep hb3)
  generalize hWW : runsL (R ++ L) = W at *
  have HWW := Lib.hid hWW
  obtain ⟨a3, c3, rfl, hr3⟩ := ho3.rd (by omega)
  have HW3 := Lib.hid hr3
  have HO3 := Lib.hid (ho3.mono (B' := w.heap.size + 2) (by have := HSZ2.out; simp at this; omega))
  clear hb3 ho3 hr3 hWW HRC HSZ2
  have b1 := HS.out.b1
  have b0 := HS.out.b0
  generalize hl1 : lenL W = z1 at *
  generalize hl2 : lenL L = z2 at *
  generalize hl3 : lenL R = z3 at *
  have H1 := Lib.hid hl1
  have H2 := Lib.hid hl2
  have H3 := Lib.hid hl3
  have q7 : IntKind.i64.wrap (z3 + z2) = z3 + z2 := IntWalk.i64_in _ (by omega)
  clear hl1 hl2 hl3
  by_cases hz : z1 = z3 + z2
  · have d1 : (z1 != z3 + z2) = false := by simp [hz]
    have d2 : (z1 == z3 + z2) = true := by simp [hz]
    have HZ := Lib.hid hz
    clear hz
    go_wp2_with fail
    refine wp_region_next (by kernel_rfl) (by kernel_rfl) ?_
    repeat (go_big_quiet_step (first | (go_at_call_of 70 (Value.slice a3 W.length c3); exact Calls.next_of (asize_is W z1 a3 c3 _ H1.out (HW3.out.keep (World.below_next _ _)) HM2.out (by omega))) | (go_at_call_of 70 (Value.slice a1 L.length c1); exact Calls.next_of (asize_is L z2 a1 c1 _ H2.out (HR2.out.keep (World.below_next _ _)) HM1.out (by omega))) | (go_at_call_of 70 (Value.slice a R.length c); exact Calls.next_of (asize_is R z3 a c _ H3.out (HRR2.out.keep (World.below_next _ _)) HM3.out (by omega)))))
    refine wpQuiet_nil ?_
    intro _ hw'
    obtain ⟨nq, hw''⟩ := hw'
    subst hw''
    have HB := Lib.hid (HS.out.later (World.below_next w3 nq))
    have HO4 := Lib.hid (HO3.out.keep (World.below_next w3 nq))
    clear HS b0 b1
    generalize w3.next nq = w4 at *
    have HS := HB
    have r0 := HS.out.r0
    have r1 := HS.out.r1
    have f0 := HS.out.f0
    have f1 := HS.out.f1
    have b0 := HS.out.b0
    have b1 := HS.out.b1
    go_wp2_with fail
    refine bodyPost_ret (v := .tuple #[.agg #[.int .i64 N, .slice a3 W.length c3], .int .i64 0]) ?_ rfl ⟨?_, .inl ⟨by rw [HWW.out, H1.out, H2.out, H3.out]; exact HZ.out, _, rfl, a3, c3, by rw [HWW.out], ?_⟩⟩
    · simp [results, Try.results47, go_sem, r0, r1, f0, f1]
    · exact (HS.out.B.setCell (by simp) _).setCell (by simp) _
    · rw [HWW.out]
      have hne : (Value.slice a3 W.length c3).ownBlock ≠ some (w.heap.size + 1) := fun e => by have := (HO4.out.lt _ e).1; omega
      exact ((HO4.out.away ⟨w.heap.size + 1, 0, none⟩ _ hne).away ⟨w.heap.size + 1, 1, none⟩ _ hne).mono (by omega)
  · have d1 : (z1 != z3 + z2) = true := by simp [hz]
    have d2 : (z1 == z3 + z2) = false := by simp [hz]
    have HZ := Lib.hid hz
    clear hz
    go_wp2_with fail
    refine wp_region_next (by kernel_rfl) (by kernel_rfl) ?_
    repeat (go_big_quiet_step (first | (go_at_call_of 70 (Value.slice a3 W.length c3); exact Calls.next_of (asize_is W z1 a3 c3 _ H1.out (HW3.out.keep (World.below_next _ _)) HM2.out (by omega))) | (go_at_call_of 70 (Value.slice a1 L.length c1); exact Calls.next_of (asize_is L z2 a1 c1 _ H2.out (HR2.out.keep (World.below_next _ _)) HM1.out (by omega))) | (go_at_call_of 70 (Value.slice a R.length c); exact Calls.next_of (asize_is R z3 a c _ H3.out (HRR2.out.keep (World.below_next _ _)) HM3.out (by omega)))))
    refine wpQuiet_nil ?_
    intro _ hw'
    obtain ⟨nq, hw''⟩ := hw'
    subst hw''
    have HB := Lib.hid (HS.out.later (World.below_next w3 nq))
    clear HS b0 b1
    generalize w3.next nq = w4 at *
    have HS := HB
    have r0 := HS.out.r0
    have r1 := HS.out.r1
    have f0 := HS.out.f0
    have f1 := HS.out.f1
    have b0 := HS.out.b0
    have b1 := HS.out.b1
    go_wp2_with fail
    refine bodyPost_ret (v := .tuple #[.agg #[.int .i64 0, .slice none 0 0], .int .i64 8]) ?_ rfl ⟨?_, .inr ⟨by rw [HWW.out, H1.out, H2.out, H3.out]; exact HZ.out, rfl⟩⟩
    · simp [results, Try.results47, go_sem, r0, r1, f0, f1]
    · exact (HS.out.B.setCell (by simp) _).setCell (by simp) _
theorem agive_any (M : List Bool) (l : List E) (a al : Option Addr) (c cl : Nat) (w : World) (hN : M.length ≤ 65536) (hrR : Rd w a (freeR M)) (hr : Rd w al l) (hw : wfL l) (hl : l.length ≤ 1000000) :
    Calls Try.prog 47 #[.agg #[.int .i64 M.length, .slice a (freeR M).length c], .slice al l.length cl] w (AChg M l false a w) := by
  cases hb : rangeB M.length l
  · exact (give_range M.length (freeR M) l a al c cl w hN hr hw hl hb).mono fun e w' h => ⟨h.2, .inl ⟨hb, h.1⟩⟩
  · obtain ⟨hp, ho, _⟩ := range_parts hN hb
    refine (give_any M.length (freeR M) l a al c cl w hN hrR (freeR_canon M) hr hw hl hp ho).mono fun e w' h => ?_
    obtain ⟨h1, ⟨h2, v, h3, a', c', rfl, h4⟩ | ⟨h2, h3⟩⟩ := h
    · rw [give_is hN hp] at h4 h3
      have hs := canon_short (freeR_canon (chgM M l false))
      exact ⟨h1, .inr (.inr ⟨hb, (give_size hN hp).1 h2, _, h3, a', c', rfl, h4.rd' (by omega), .inr (.inr fun b o e => (h4.lt b (by rw [e]; rfl)).1)⟩)⟩
    · exact ⟨h1, .inr (.inl ⟨hb, fun hc => h2 ((give_size hN hp).2 hc), h3⟩)⟩
end Go.Proofs.Ytolhajkbamhdgaa
