/-
  The walk of the law FamilyName.
  Conditions: none beyond that the argument can be read.
-/
import Derived.Test.YtpakjddfnhnndaaFcP
import Derived.Test.YtpakjddfnhnndaaFaM
namespace Go.Proofs.Ytpakjddfnhnndaa
set_option linter.unusedSimpArgs false
set_option linter.unusedVariables false
set_option maxRecDepth 100000
open Go.RowKit Go.Maps

theorem rname36_is (nm : List UInt8) (w : World) (hn : nm.length ≤ maxLen) (b : Bool) (h : nameB nm = b) : Calls Try.prog 7 #[nmV nm] w fun e w' => e = .returned (.bool b) ∧ Below w.heap.size w w' := by
  subst h
  exact rname_any nm w hn
theorem fname36_is (nm : List UInt8) (w : World) (hn : nm.length ≤ maxLen) (b : Bool) (h : nameB nm = b) : Calls Try.prog 8 #[nmV nm] w fun e w' => e = .returned (.bool b) ∧ Below w.heap.size w w' := by
  subst h
  exact fname_any nm w hn
set_option maxHeartbeats 4000000 in
theorem law_name36 (s : List UInt8) (w : World) (hs : s.length ≤ maxLen) :
    Calls Try.prog 3 #[nmV s] w fun e w' => e = .returned (.bool true) ∧ Below w.heap.size w w' := by
  obtain ⟨F1, hF1⟩ : ∃ F, F = (⟨3, []⟩ : Fam) := ⟨_, rfl⟩
  have hok : F1.ok := by rw [hF1]; exact (good_new 3 (by omega)).1
  obtain ⟨G, e0, hcr, he0⟩ : ∃ G e0, createF F1 s 3 1 = (G, e0) ∧ e0 = if nameB s = true then 0 else 1 := by
    rw [hF1]
    unfold createF
    cases hn : nameB s
    · exact ⟨_, _, rfl, rfl⟩
    · exact ⟨_, _, rfl, rfl⟩
  have HOK := Lib.hid hok
  have HCR := Lib.hid hcr
  have HF1 := Lib.hid hF1
  clear hok hcr hF1
  go_enter Try.func3, Try.ntmps3
  go_wp2_with fail
  refine (awake36_any _).mono ?_
  rintro e w1 ⟨rfl, hb1⟩
  go_wp2_with fail
  refine (fnew_yes 3 _ (by omega)).mono ?_
  rintro e w2 ⟨fv, rfl, hf, hb2⟩
  have hf : FamV w2 fv F1 := by rw [HF1.out]; exact hf
  obtain ⟨a1, c1, m1, rfl⟩ := hf.form
  have HA := Lib.hid (AwS.new hf (hb1.on hb2))
  clear hf hb1 hb2
  have b0 := HA.out.bx.c0
  have b1 := HA.out.bx.c1
  have f0 := HA.out.bx.f0
  have f1 := HA.out.bx.f1
  go_wp2_with fail
  refine (create_r F1 G e0 _ s 3 1 _ HOK.out HA.out.fam hs HCR.out).mono ?_
  rintro e w3 ⟨fv, rfl, hf, hb⟩
  obtain ⟨a3, c3, m3, rfl⟩ := hf.form
  have HB := Lib.hid ((HA.out.later hb).B.onAlloc (.cells #[.slice a3 G.N c3, .map m3] 28))
  clear hb b0 b1 f0 f1 hf HA HCR HOK HF1
  cases hn : nameB s
  · have HN := Lib.hid hn
    rw [hn] at he0
    simp only [Bool.false_eq_true, if_false] at he0
    subst he0
    clear hn
    go_wp2_with fail
    refine (rname36_is s _ hs false HN.out).mono ?_
    rintro e w4 ⟨rfl, hb4⟩
    go_wp2_with fail
    refine (fname36_is s _ hs false HN.out).mono ?_
    rintro e w5 ⟨rfl, hb5⟩
    go_wp2_with fail
    refine (rname36_is s _ hs false HN.out).mono ?_
    rintro e w6 ⟨rfl, hb6⟩
    have hB := ((HB.out.on hb4).on hb5).on hb6
    go_wp2_with fail
    go_ret
    exact ⟨rfl, hB⟩
  · have HN := Lib.hid hn
    rw [hn] at he0
    simp only [if_true] at he0
    subst he0
    clear hn
    go_wp2_with fail
    refine (rname36_is s _ hs true HN.out).mono ?_
    rintro e w4 ⟨rfl, hb4⟩
    go_wp2_with fail
    refine (fname36_is s _ hs true HN.out).mono ?_
    rintro e w5 ⟨rfl, hb5⟩
    go_wp2_with fail
    refine (rname36_is s _ hs true HN.out).mono ?_
    rintro e w6 ⟨rfl, hb6⟩
    have hB := ((HB.out.on hb4).on hb5).on hb6
    go_wp2_with fail
    go_ret
    exact ⟨rfl, hB⟩
end Go.Proofs.Ytpakjddfnhnndaa
