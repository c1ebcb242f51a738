/-
  The walk of the law ExtentRuns.
  Conditions: none beyond that the arguments can be read.
-/
import Derived.Test.YtcalianponiioaaRuM
import Derived.Test.YtcalianponiioaaTgK
namespace Go.Proofs.Ytcalianponiioaa
set_option linter.unusedSimpArgs false
set_option linter.unusedVariables false
open Go.RowKit

theorem drop_rev (l : List E) (k : Nat) (h : k < l.length) : (l.drop k).reverse = (l.drop (k + 1)).reverse ++ [l[k]] := by
  rw [List.drop_eq_getElem_cons h, List.reverse_cons]
set_option maxRecDepth 100000 in
set_option maxHeartbeats 4000000 in
theorem law_runs (l : List E) (a : Option Addr) (c : Nat) (w : World) (hl : l.length ≤ 9223372036854775807 ∧ l.length ≤ c ∧ c ≤ 9223372036854775807) (hr : l.length ≤ 46912496118443 → Rd w a l) (hw : wfL l) :
    Calls Try.prog 10 #[.slice a l.length c] w fun e w' => e = .returned (.bool true) ∧ Below w.heap.size w w' := by
  have hlen := hl.1
  obtain ⟨i0, hi, hz0, hz1, hz2⟩ := info_parts infoE
  by_cases h40 : 40 < l.length
  · clear hr
    go_enter Try.func10, Try.ntmps10
    go_wp2_with (go_at_call 11; refine (awake_any _).mono ?_; rintro e w1 ⟨rfl, hb1⟩)
    go_ret
    exact ⟨rfl, hb1⟩
  · have hr := hr (by omega)
    have h40' : l.length ≤ 40 := by omega
    clear h40
    have hrs := canon_short (runs_facts l).1
    have HREV := Lib.hid (runs_mem (A := l.reverse) (B := l) (fun x => by simp))
    have HAG := Lib.hid (runs_again l)
    have HWR : Hid (wfL (runsL l)) := Lib.hid (wfL_of_ok fun x hx => ((runs_facts l).1.1 x hx).2)
    go_enter Try.func10, Try.ntmps10
    go_wp2_with fail
    refine (awake_any _).mono ?_
    rintro e w1 ⟨rfl, hb1⟩
    go_wp2_with fail
    refine (copied_any l _ _ _ (hr.keep hb1) (by omega)).mono ?_
    rintro e w2 ⟨v2, rfl, ho2, hb2⟩
    have hB2 := hb1.on hb2
    obtain ⟨a2, c2, rfl, hr2⟩ := ho2.rd (by omega)
    clear ho2 hb1 hb2
    go_wp2_with fail
    refine (runs_any l _ _ _ hr2 hw (by omega)).mono ?_
    rintro e w3 ⟨v3, rfl, ho3, hb3⟩
    have hB3 := hB2.on hb3
    obtain ⟨a3, c3, rfl, hr3⟩ := ho3.rd (by omega)
    clear ho3 hb3 hB2 hr2
    go_wp2_with fail
    refine (rruns_any l _ _ _ (hr.keep hB3) hw).mono ?_
    rintro e w4 ⟨v4, rfl, ho4, hb4⟩
    have hB4 := hB3.on hb4
    have hr3 := hr3.keep hb4
    obtain ⟨a4, c4, rfl, hr4⟩ := ho4.rd (by omega)
    clear ho4 hb4 hB3
    go_wp2_with fail
    refine (same_is (runsL l) (runsL l) _ _ _ _ true _ (sameB_refl _) hr3 hr4).mono ?_
    rintro e w5 ⟨rfl, hb5⟩
    have hB5 := hB4.on hb5
    have HR3 := Lib.hid (hr3.keep hb5)
    have HR := Lib.hid (hr.keep hB5)
    clear hb5 hB4 hr3 hr4 hr
    go_wp2_with fail
    go_loopw [4, 5] (fun v i wr => ∃ k : Nat, k ≤ l.length ∧ i = .int .i64 ((k : Int) - 1) ∧ OwnE wr w5.heap.size v (l.drop k).reverse ∧ Below w5.heap.size w5 wr) (fun _ i _ => (match i with | .int _ n => n + 1 | _ => 0).toNat)
    case atStart => exact ⟨l.length, Nat.le_refl _, by go_num, by rw [List.drop_length]; exact OwnE.nil _ _, Below.refl _ _⟩
    case round =>
      obtain ⟨k, hk, rfl, ho, hB⟩ := hrel
      by_cases h0 : k = 0
      · subst h0
        have hdr : (l.drop 0).reverse = l.reverse := by simp
        rw [hdr] at ho
        have hrl : l.reverse.length = l.length := List.length_reverse
        obtain ⟨a6, c6, rfl, hr6⟩ := ho.rd (by omega)
        clear ho hdr
        have hB6 := hB5.on hB
        have HR6 := Lib.hid hr6
        have HWV : Hid (wfL l.reverse) := Lib.hid fun x hx => hw x (by simpa using hx)
        generalize l.reverse = lr at *
        have hlr : lr.length ≤ 40 := by omega
        clear hr6 hrl
        go_wp2_with fail
        refine (runs_any lr _ _ _ HR6.out HWV.out (by omega)).mono ?_
        rintro e w7 ⟨v7, rfl, ho7, hb7⟩
        rw [HREV.out] at ho7
        have hB7 := hB6.on hb7
        have hr3 := (HR3.out.keep hB).keep hb7
        obtain ⟨a7, c7, rfl, hr7⟩ := ho7.rd (by omega)
        clear ho7 hb7 hB6 hB
        go_wp2_with fail
        refine (same_is (runsL l) (runsL l) _ _ _ _ true _ (sameB_refl _) hr3 hr7).mono ?_
        rintro e w8 ⟨rfl, hb8⟩
        have hB8 := hB7.on hb8
        have hr3 := hr3.keep hb8
        clear hb8 hB7 hr7
        go_wp2_with fail
        refine (runs_any (runsL l) _ _ _ hr3 HWR.out (by omega)).mono ?_
        rintro e w9 ⟨v9, rfl, ho9, hb9⟩
        rw [HAG.out] at ho9
        have hB9 := hB8.on hb9
        have hr3 := hr3.keep hb9
        obtain ⟨a9, c9, rfl, hr9⟩ := ho9.rd (by omega)
        clear ho9 hb9 hB8
        go_wp2_with fail
        refine (same_is (runsL l) (runsL l) _ _ _ _ true _ (sameB_refl _) hr3 hr9).mono ?_
        rintro e w10 ⟨rfl, hb10⟩
        have hB10 := hB9.on hb10
        go_wp2_with fail
        go_ret
        exact ⟨ret_bool (by simp), hB10⟩
      · obtain ⟨m, rfl⟩ : ∃ m, k = m + 1 := ⟨k - 1, by omega⟩
        have hlt : m < l.length := by omega
        obtain ⟨b, o, rfl, hat⟩ := (HR.out.keep hB).at (by omega)
        obtain ⟨h1, h2, h3⟩ := hat m _ (List.getElem?_eq_getElem hlt)
        have HT := Lib.hid (drop_rev l m hlt)
        have hdl : (l.drop (m + 1)).reverse.length ≤ l.length := by rw [List.length_reverse, List.length_drop]; omega
        generalize l[m] = x at *
        generalize (l.drop (m + 1)).reverse = R at *
        have HO := Lib.hid ho
        have hsz := hB.size
        have hmi : ((m + 1 : Nat) : Int) - 1 = m := by omega
        rw [hmi]
        clear ho hat
        go_wp2_with (at_builtin; refine wpList_append_x _ rfl _ _ 22 rfl w5.heap.size 33 i0 (.agg #[.int .i64 0, .int .i64 0, .int .i64 0]) 3 24 Try.underlying22 hi hz0 hz1 hz2 rfl (by decide) _ _ _ rfl (World.ownsRow.alloc HO.out _) ⟨wr.heap.size, 0, none⟩ 1 1 (E.cells x) rfl rfl (newE _ _ (by simp) _ _) (cellsE_one _) (by first | omega | (simp only [List.length_nil, List.length_append, List.length_cons]; omega)) (by first | (simp only [maxLen]; omega) | (simp only [maxLen, List.length_nil, List.length_append, List.length_cons]; omega)) (by simp only [World.size_alloc]; omega) ?_; intro v1 w1 hown1 hgrow1 hwhere1)
        have hB4' := Lib.hid ((hB.onAlloc (.cells #[.int .i64 x.a, .int .i64 x.n, .int .i64 x.s] 33)).onGrow hgrow1 fun j hj => (HO.out.lt j hj).1)
        have HO4 := Lib.hid (OwnE.snoc hown1 (by simp))
        clear hown1 hgrow1 hwhere1
        go_roundw
        case rel => exact ⟨m, by omega, by go_num, by rw [HT.out]; exact HO4.out, hB4'.out⟩
        case measure => simp
end Go.Proofs.Ytcalianponiioaa
