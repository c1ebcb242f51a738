/-
  The walks of the laws RefcountScript, RefcountNew.
  Conditions: none beyond that the arguments can be read.
-/
import Derived.Test.YtolhajkbamhdgaaRcK
namespace Go.Proofs.Ytolhajkbamhdgaa
set_option linter.unusedSimpArgs false
set_option linter.unusedVariables false
open Go.RowKit

theorem few_is (S : List (Bool × List E)) (a : Option Addr) (c : Nat) (w : World) (hr : RdS w a S) (r : Bool) (h : (fewB S && decide (S.length ≤ 20)) = r) :
    Calls Try.prog 17 #[.slice a S.length c] w fun e w' => e = .returned (.bool r) ∧ Below w.heap.size w w' := by
  subst h
  exact few_any S a c w hr
set_option maxRecDepth 100000 in
set_option maxHeartbeats 2000000 in
theorem law_script (i : Int) (S : List (Bool × List E)) (a : Option Addr) (c : Nat) (w : World) (hi : 0 ≤ i ∧ i ≤ 255) (hr : RdS w a S) :
    Calls Try.prog 3 #[.int .u8 i, .slice a S.length c] w fun e w' => e = .returned (.bool true) ∧ Below w.heap.size w w' := by
  obtain ⟨n, rfl⟩ := Int.eq_ofNat_of_zero_le hi.1
  have hn : n ≤ 255 := by omega
  have hlen := hr.1
  cases hf : (fewB S && decide (S.length ≤ 20))
  all_goals
    have HF := Lib.hid hf
    clear hf
    go_enter Try.func3, Try.ntmps3
    go_wp2_with fail
    refine (awake34_any _).mono ?_
    rintro e w1 ⟨rfl, hb1⟩
    go_wp2_with fail
    refine (few_is S a c _ (hr.keep hb1) _ HF.out).mono ?_
    rintro e w2 ⟨rfl, hb2⟩
    have hB2 := hb1.on hb2
    go_wp2_with fail
  · go_ret
    exact ⟨rfl, hB2⟩
  · have hff := HF.out
    simp only [Bool.and_eq_true, decide_eq_true_eq] at hff
    obtain ⟨h1, h2⟩ := hff
    have HFB := Lib.hid h1
    clear h1
    refine (build_any n S a c _ hn (hr.keep hB2) HFB.out h2).mono ?_
    rintro e w3 ⟨C, a3, a4, c3, c4, rfl, hl, hR, hrc, hrd, hb3⟩
    have hB3 := hB2.on hb3
    clear hl hR hrc hrd hb3 hb1 hb2
    go_wp2_with fail
    go_ret
    exact ⟨rfl, by (repeat (first | exact Below.refl _ _ | assumption | refine Below.onNext ?_ _ | refine Below.onAlloc ?_ _ | refine Below.setCell ?_ (by simp) _ | refine Below.drew ?_))⟩
end Go.Proofs.Ytolhajkbamhdgaa
