/-
  The walk of the law AllocScript.
  Conditions: none beyond that the arguments can be read.
-/
import Derived.Test.YtolhajkbamhdgaaAlO
namespace Go.Proofs.Ytolhajkbamhdgaa
set_option linter.unusedSimpArgs false
set_option linter.unusedVariables false
open Go.RowKit

set_option maxRecDepth 100000 in
set_option maxHeartbeats 2000000 in
theorem law_script35 (i : Int) (S : List Step35) (a : Option Addr) (c : Nat) (w : World) (hi : 0 ≤ i ∧ i ≤ 255) (hr : RdS35 w a S) :
    Calls Try.prog 11 #[.int .u8 i, .slice a S.length c] w fun e w' => e = .returned (.bool true) ∧ Below w.heap.size w w' := by
  obtain ⟨n, rfl⟩ := Int.eq_ofNat_of_zero_le hi.1
  have hn : n ≤ 255 := by omega
  have hlen := hr.1
  cases hf : (fewB35 S && decide (S.length ≤ 25))
  · have HF := Lib.hid hf
    clear hf
    go_enter Try.func11, Try.ntmps11
    go_wp2_with fail
    refine (awake35_any _).mono ?_
    rintro e w1 ⟨rfl, hb1⟩
    go_wp2_with fail
    refine (few35_is S a c _ (hr.keep hb1) _ HF.out).mono ?_
    rintro e w2 ⟨rfl, hb2⟩
    have hB2 := hb1.on hb2
    go_wp2_with fail
    go_ret
    exact ⟨rfl, hB2⟩
  have HF := Lib.hid hf
  clear hf
  go_enter Try.func11, Try.ntmps11
  go_wp2_with fail
  refine (awake35_any _).mono ?_
  rintro e w1 ⟨rfl, hb1⟩
  go_wp2_with fail
  refine (few35_is S a c _ (hr.keep hb1) _ HF.out).mono ?_
  rintro e w2 ⟨rfl, hb2⟩
  have hB2 := hb1.on hb2
  go_wp2_with fail
  have hff := HF.out
  simp only [Bool.and_eq_true, decide_eq_true_eq] at hff
  obtain ⟨h1, h2⟩ := hff
  have HFB := Lib.hid h1
  clear h1
  refine (build35_any n S a c _ hn (hr.keep hB2) HFB.out h2).mono ?_
  rintro e w3 ⟨M, am, an, cm, cn, rfl, hMl, hrm, hrn, hb3⟩
  have hN : M.length ≤ 65536 := by omega
  have hN99 : M.length ≤ 99 := by omega
  have HB := Lib.hid (hB2.on hb3)
  have HM := Lib.hid hrm
  have HN := Lib.hid hrn
  clear hMl hrm hrn hb3 hb1 hb2 hB2 hr HFB HF
  have hB := HB.out
  go_wp2_with fail
  go_ret
  exact ⟨rfl, by (repeat (first | exact Below.refl _ _ | assumption | refine Below.onNext ?_ _ | refine Below.onAlloc ?_ _ | refine Below.setCell ?_ (by simp) _ | refine Below.drew ?_))⟩
end Go.Proofs.Ytolhajkbamhdgaa
