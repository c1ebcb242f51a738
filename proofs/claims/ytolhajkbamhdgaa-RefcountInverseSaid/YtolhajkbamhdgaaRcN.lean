/-
  The walk of the law RefcountInverse.
  Conditions: none beyond that the arguments can be read.
-/
import Derived.Test.YtolhajkbamhdgaaRcM
namespace Go.Proofs.Ytolhajkbamhdgaa
set_option linter.unusedSimpArgs false
set_option linter.unusedVariables false
open Go.RowKit

def freshB (C X : List Int) (i : Nat) : Bool := decide (C.getD i 0 = 0) && decide (0 < X.getD i 0)
set_option maxRecDepth 100000 in
set_option maxHeartbeats 4000000 in
theorem law_inverse (i : Int) (S : List (Bool × List E)) (l : List E) (a al : Option Addr) (c cl : Nat) (w : World) (hi : 0 ≤ i ∧ i ≤ 255) (hr : RdS w a S) (hl : l.length ≤ 9223372036854775807 ∧ l.length ≤ cl ∧ cl ≤ 9223372036854775807) (hrl : l.length ≤ 46912496118443 → Rd w al l) (hw : wfL l) :
    Calls Try.prog 4 #[.int .u8 i, .slice a S.length c, .slice al l.length cl] w fun e w' => e = .returned (.bool true) ∧ Below w.heap.size w w' := by
  obtain ⟨n, rfl⟩ := Int.eq_ofNat_of_zero_le hi.1
  have hn : n ≤ 255 := by omega
  have hlen := hr.1
  have hlen2 := hl.1
  cases hf : (fewB S && decide (S.length ≤ 20))
  · have HF := Lib.hid hf
    clear hf hrl
    go_enter Try.func4, Try.ntmps4
    go_wp2_with fail
    refine (awake34_any _).mono ?_
    rintro e w1 ⟨rfl, hb1⟩
    go_wp2_with fail
    refine (few_is S a c _ (hr.keep hb1) _ HF.out).mono ?_
    rintro e w2 ⟨rfl, hb2⟩
    have hB2 := hb1.on hb2
    go_wp2_with fail
    go_ret
    exact ⟨rfl, hB2⟩
  have HF := Lib.hid hf
  clear hf
  by_cases h8 : 8 < l.length
  · clear hrl
    go_enter Try.func4, Try.ntmps4
    go_wp2_with fail
    refine (awake34_any _).mono ?_
    rintro e w1 ⟨rfl, hb1⟩
    go_wp2_with fail
    refine (few_is S a c _ (hr.keep hb1) _ HF.out).mono ?_
    rintro e w2 ⟨rfl, hb2⟩
    have hB2 := hb1.on hb2
    go_wp2_with fail
    go_ret
    exact ⟨rfl, hB2⟩
  have h8' : l.length ≤ 8 := by omega
  have HRL := Lib.hid (hrl (by omega))
  have HW := Lib.hid hw
  clear hrl h8 hw
  go_enter Try.func4, Try.ntmps4
  go_wp2_with fail
  refine (awake34_any _).mono ?_
  rintro e w1 ⟨rfl, hb1⟩
  go_wp2_with fail
  refine (few_is S a c _ (hr.keep hb1) _ HF.out).mono ?_
  rintro e w2 ⟨rfl, hb2⟩
  have hB2 := hb1.on hb2
  go_wp2_with fail
  have hff := HF.out
  simp only [Bool.and_eq_true, decide_eq_true_eq] at hff
  obtain ⟨h1, h2⟩ := hff
  have HFB := Lib.hid h1
  clear h1
  refine (build_any n S a c _ hn (hr.keep hB2) HFB.out h2).mono ?_
  rintro e w3 ⟨C, a3, a4, c3, c4, rfl, hCn, hR, hrc, hrd, hb3⟩
  have hC0 : C.length ≤ 99 := by omega
  have HB := Lib.hid (hB2.on hb3)
  have HR := Lib.hid hR
  have HC := Lib.hid hrc
  have HD := Lib.hid hrd
  replace HRL := Lib.hid (HRL.out.keep HB.out)
  clear hCn hR hrc hrd hb3 hb1 hb2 hB2 hr HFB HF
  have HK : Hid (Kept w (w3.alloc (.cells #[.slice a3 C.length c3] 27)) w3.heap.size C a3 a4 c3 al l) :=
    Lib.hid ⟨by simp, HC.out.keep ((Below.refl _ _).onAlloc _), HD.out.keep ((Below.refl _ _).onAlloc _), HRL.out.keep ((Below.refl _ _).onAlloc _), HB.out.onAlloc _⟩
  have hRb : Hid (inR 0 1000000000 C) := Lib.hid (inR_mono HR.out (by omega) (by omega))
  clear HC HD HRL HB
  cases hp : permB C.length l
  · have HP := Lib.hid hp
    clear hp
    go_wp2_with fail
    refine (add_no C l a3 al c3 cl _ (by omega) HK.out.l HW.out HP.out).mono ?_
    rintro e w4 ⟨rfl, hb⟩
    replace HK := Lib.hid ((HK.out.later hb).later ((Below.refl _ _).onAlloc (.cells #[.slice none 0 0] 27)))
    clear hb
    go_wp2_with fail
    refine (radd_no C l a4 al c4 cl _ (by omega) HK.out.l HW.out HP.out).mono ?_
    rintro e w5 ⟨rfl, hb⟩
    have HB5 := Lib.hid (HK.out.B.on hb)
    clear hb
    go_wp2_with fail
    go_ret
    exact ⟨rfl, HB5.out⟩
  · have HP := Lib.hid hp
    have HUP := Lib.hid (chg_up hp HR.out)
    have HL := Lib.hid (chgL_length C l 1)
    have HBK := Lib.hid (chg_back C l hp)
    have HFR := Lib.hid (fresh_is C l (by omega) hp (fun i hi => (inR_get.1 HR.out i hi).1))
    clear hp
    go_wp2_with fail
    refine (add_yes C l a3 al c3 cl _ HK.out.c HK.out.l HW.out HP.out hRb.out (by omega)).mono ?_
    rintro e w4 ⟨v4, rfl, ho4, hb⟩
    obtain ⟨a5, c5, rfl, hrX⟩ := ho4.rd (by rw [HL.out]; omega)
    replace HK := Lib.hid ((HK.out.later hb).later ((Below.refl w4.heap.size w4).onAlloc (.cells #[.slice a5 (chgL C l 1).length c5] 27)))
    have HX := Lib.hid (hrX.keep ((Below.refl w4.heap.size w4).onAlloc (.cells #[.slice a5 (chgL C l 1).length c5] 27)))
    have hx : (w4.alloc (.cells #[.slice a5 (chgL C l 1).length c5] 27)).cell? ⟨w4.heap.size, 0, none⟩ = some (.slice a5 (chgL C l 1).length c5) := by simp
    have hXY : Hid (∃ X, X = chgL C l 1) := Lib.hid ⟨_, rfl⟩
    clear ho4 hrX hb
    go_wp2_with fail
    refine (radd_yes C l a4 al c4 cl _ HK.out.d HK.out.l HW.out HP.out hRb.out (by omega)).mono ?_
    rintro e w5 ⟨v5, rfl, ho5, hb⟩
    obtain ⟨a6, c6, rfl, hrY⟩ := ho5.rd (by rw [HL.out]; omega)
    replace HK := Lib.hid (HK.out.later hb)
    replace HX := Lib.hid (HX.out.keep hb)
    have HY := Lib.hid hrY
    replace hx := hb.keep hx
    have ht := HK.out.t
    have HFRX : Hid (runsL (freedL C l) = runsL (picks (freshB C (chgL C l 1)) C.length)) := Lib.hid HFR.out
    have HRX : Hid (inR 0 1000000000 (chgL C l 1)) := Lib.hid (inR_mono HUP.out (by omega) (by omega))
    generalize chgL C l 1 = X at *
    clear ho5 hrY hb hXY HFR
    have HPX : Hid (permB X.length l = true) := Lib.hid (by rw [HL.out]; exact HP.out)
    have HNX : Hid (negB (chgL X l (-1)) = false) := Lib.hid (by rw [HBK.out]; exact (negB_iff _).2 fun x hx => (HR.out x hx).1)
    go_wp2_with fail
    refine (drop_yes X l a5 al c5 cl _ HX.out HK.out.l HW.out HPX.out HRX.out (by omega) HNX.out).mono ?_
    rintro e w6 ⟨v6, f6, rfl, ho6, hf6, hb⟩
    rw [HBK.out] at ho6 hf6
    rw [HFRX.out] at hf6
    obtain ⟨a7, c7, rfl, hrB⟩ := ho6.rd (by omega)
    have hfs := canon_short (runs_facts (picks (freshB C X) C.length)).1
    obtain ⟨a8, c8, rfl, hrF⟩ := hf6.rd (by omega)
    have hbb := hb.onAlloc (.cells #[.slice a7 C.length c7] 27)
    replace HK := Lib.hid (HK.out.later hbb)
    replace HX := Lib.hid (HX.out.keep hbb)
    replace HY := Lib.hid (HY.out.keep hbb)
    replace hx := hbb.keep hx
    have ht := HK.out.t
    have HBA := Lib.hid (hrB.keep ((Below.refl w6.heap.size w6).onAlloc (.cells #[.slice a7 C.length c7] 27)))
    have HF := Lib.hid (hrF.keep ((Below.refl w6.heap.size w6).onAlloc (.cells #[.slice a7 C.length c7] 27)))
    have hy : (w6.alloc (.cells #[.slice a7 C.length c7] 27)).cell? ⟨w6.heap.size, 0, none⟩ = some (.slice a7 C.length c7) := by simp
    clear hi
    obtain ⟨i0, hi, hz0, hz1, hz2⟩ := info_parts infoE
    clear ho6 hf6 hb hbb hrB hrF HBK HFRX HPX HNX HUP HP
    go_wp2_with fail
    generalize w6.alloc (.cells #[.slice a7 C.length c7] 27) = W at *
    generalize w6.heap.size = Z at *
    go_loopw [17, 18] (fun v t wr => ∃ k : Nat, k ≤ C.length ∧ t = .int .i64 k ∧ OwnE wr W.heap.size v (picks (freshB C X) k) ∧ Below W.heap.size W wr) (fun _ t _ => C.length - (intOf t).toNat)
    case atStart => exact ⟨0, Nat.zero_le _, rfl, OwnE.nil _ _, Below.refl _ _⟩
    case round =>
      obtain ⟨k, hk, rfl, ho, hBk⟩ := hrel
      by_cases hlt : k < C.length
      · have hkX : k < X.length := by have := HL.out; omega
        obtain ⟨b, o, he1, hat⟩ := (HK.out.d.keep hBk).at (by omega)
        have h1 := hat k _ (getD_some C k hlt)
        obtain ⟨b2, o2, he2, hat2⟩ := (HY.out.keep hBk).at (by omega)
        have h2 := hat2 k _ (getD_some X k hkX)
        have hpl := picks_length (freshB C X) k
        have hsz := hBk.size
        have HO := Lib.hid ho
        have hk0 : (0 : Int) ≤ k := by omega
        have hk1 : (k : Int) < C.length := by omega
        have hk2 : (k : Int) < X.length := by omega
        have HFB : Hid (freshB C X k = (decide (C.getD k 0 = 0) && decide (0 < X.getD k 0))) := Lib.hid rfl
        have HPY := Lib.hid (fun h => picks_yes (freshB C X) k h)
        have HPN := Lib.hid (fun h => picks_no (freshB C X) k h)
        generalize C.getD k 0 = x at *
        generalize X.getD k 0 = y at *
        subst he1
        subst he2
        clear hat hat2 ho
        by_cases hx0 : x = 0
        · subst hx0
          have d1 : ((0 : Int) == 0) = true := by simp
          by_cases hy0 : 0 < y
          · have d2 : decide (0 < y) = true := decide_eq_true hy0
            have HT := Lib.hid (HPY.out (by rw [HFB.out]; simp [hy0]))
            generalize picks (freshB C X) k = R at *
            go_wp2_with (at_builtin; refine wpList_append_x _ rfl _ _ 32 rfl W.heap.size 41 i0 (.agg #[.int .i64 0, .int .i64 0, .int .i64 0]) 3 24 Try.underlying32 hi hz0 hz1 hz2 rfl (by decide) _ _ _ rfl (World.ownsRow.alloc HO.out _) ⟨wr.heap.size, 0, none⟩ 1 1 (E.cells (single k)) rfl rfl (newE _ _ (by simp) _ _) (cellsE_one _) (by first | omega | (simp only [List.length_nil, List.length_append, List.length_cons]; omega)) (by first | (simp only [maxLen]; omega) | (simp only [maxLen, List.length_nil, List.length_append, List.length_cons]; omega)) (by simp only [World.size_alloc]; omega) ?_; intro v1 w1 hown1 hgrow1 hwhere1)
            have hB4 := Lib.hid ((hBk.onAlloc (.cells #[.int .i64 0, .int .i64 1, .int .i64 k] 41)).onGrow hgrow1 fun j hj => (HO.out.lt j hj).1)
            have HO4 := Lib.hid (OwnE.snoc hown1 (by simp))
            clear hown1 hgrow1 hwhere1
            go_roundw
            case rel => exact ⟨k + 1, by omega, by go_num, by rw [HT.out]; exact HO4.out, hB4.out⟩
            case measure => simp [intOf]; omega
          · have d2 : decide (0 < y) = false := decide_eq_false hy0
            have HT := Lib.hid (HPN.out (by rw [HFB.out]; simp [hy0]))
            clear HPY HPN
            go_wp2
            go_roundw
            case rel => exact ⟨k + 1, by omega, by go_num, by rw [HT.out]; exact HO.out, hBk⟩
            case measure => simp [intOf]; omega
        · have d1 : (x == 0) = false := by simpa using hx0
          have HT := Lib.hid (HPN.out (by rw [HFB.out]; simp [hx0]))
          clear HPY HPN hx0
          go_wp2
          go_roundw
          case rel => exact ⟨k + 1, by omega, by go_num, by rw [HT.out]; exact HO.out, hBk⟩
          case measure => simp [intOf]; omega
      · obtain rfl : k = C.length := by omega
        have hpl := picks_length (freshB C X) C.length
        obtain ⟨a9, c9, rfl, hr9⟩ := ho.rd (by omega)
        have HWP := Lib.hid (picks_wf (freshB C X) C.length (by omega))
        generalize picks (freshB C X) C.length = R at *
        replace HK := Lib.hid (HK.out.later hBk)
        replace HX := Lib.hid (HX.out.keep hBk)
        replace HY := Lib.hid (HY.out.keep hBk)
        replace HBA := Lib.hid (HBA.out.keep hBk)
        replace HF := Lib.hid (HF.out.keep hBk)
        have HR9 := Lib.hid hr9
        replace hx := hBk.keep hx
        replace hy := hBk.keep hy
        replace ht := HK.out.t
        clear ho hr9 hBk
        go_wp2_with fail
        refine (same_counts C a7 a4 c7 c4 _ HBA.out HK.out.d hRb.out).mono ?_
        rintro e w10 ⟨rfl, hb⟩
        replace HK := Lib.hid (HK.out.later hb)
        replace HX := Lib.hid (HX.out.keep hb)
        replace HY := Lib.hid (HY.out.keep hb)
        replace HF := Lib.hid (HF.out.keep hb)
        replace HR9 := Lib.hid (HR9.out.keep hb)
        replace hx := hb.keep hx
        clear hb HBA hy
        go_wp2_with fail
        refine (rruns_any R _ _ _ HR9.out HWP.out).mono ?_
        rintro e w11 ⟨v11, rfl, ho11, hb⟩
        obtain ⟨a11, c11, rfl, hr11⟩ := ho11.rd (by omega)
        replace HK := Lib.hid (HK.out.later hb)
        replace HX := Lib.hid (HX.out.keep hb)
        replace HY := Lib.hid (HY.out.keep hb)
        replace HF := Lib.hid (HF.out.keep hb)
        have HR11 := Lib.hid hr11
        replace hx := hb.keep hx
        clear hb ho11 hr11
        go_wp2_with fail
        refine (same_is (runsL R) (runsL R) _ _ _ _ true _ (sameB_refl _) HF.out HR11.out).mono ?_
        rintro e w12 ⟨rfl, hb⟩
        replace HK := Lib.hid (HK.out.later hb)
        replace HX := Lib.hid (HX.out.keep hb)
        replace HY := Lib.hid (HY.out.keep hb)
        replace hx := hb.keep hx
        clear hb HF HR11
        go_wp2_with fail
        refine (same_counts X a5 a6 c5 c6 _ HX.out HY.out HRX.out).mono ?_
        rintro e w13 ⟨rfl, hb⟩
        have HB13 := Lib.hid (HK.out.B.on hb)
        go_wp2_with fail
        go_ret
        exact ⟨rfl, HB13.out⟩
end Go.Proofs.Ytolhajkbamhdgaa
