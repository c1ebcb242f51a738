/-
  The specification tegularef34: Drop.
  Conditions: as each theorem says.
-/
import Derived.Test.YtolhajkbamhdgaaRcF
namespace Go.Proofs.Ytolhajkbamhdgaa
set_option linter.unusedSimpArgs false
set_option linter.unusedVariables false
open Go.RowKit

/-- What Drop of the specification returns for counts C that become D. -/
def RDropPost (C D : List Int) (w : World) (e : Ending) (w' : World) : Prop :=
  Below w.heap.size w w' ∧ ((negB D = true ∧ e = .returned (.tuple #[.slice none 0 0, .slice none 0 0, .int .i64 8])) ∨
    (negB D = false ∧ ∃ v f, e = .returned (.tuple #[v, f, .int .i64 0]) ∧ OwnI w' w.heap.size v D ∧ OwnE w' w.heap.size f (runsL (picks (freeB C D) C.length))))
set_option maxRecDepth 100000 in
set_option maxHeartbeats 4000000 in
theorem rdrop_any (C : List Int) (l : List E) (a al : Option Addr) (c cl : Nat) (w : World) (hrC : RdI w a C) (hr : Rd w al l) (hw : wfL l) (hp : permB C.length l = true) (hR : inR 0 1000000000 C) (hl : l.length ≤ 1000000000) :
    Calls Try.prog 50 #[.slice a C.length c, .slice al l.length cl] w (RDropPost C (chgL C l (-1)) w) := by
  have hC := hrC.1
  have HP := Lib.hid hp
  clear hp
  go_enter Try.func50, Try.ntmps50
  go_wp2_with fail
  refine (rpermitted_is C.length l a al c cl _ hC hr hw true HP.out).mono ?_
  rintro e w1 ⟨rfl, hb1⟩
  go_wp2_with fail
  refine (rchanged_any C l (-1) a al c cl _ (hrC.keep hb1) (hr.keep hb1) HP.out (by omega) (inR_mono hR (by omega) (by omega)) hl).mono ?_
  rintro e w2 ⟨v, rfl, ho, hb2⟩
  have hB2 := hb1.on hb2
  have HRD := Lib.hid (inR_mono (lo' := -2000000000) (hi' := 2000000000) (chgL_range l (-1) (by omega) C _ _ hR) (by omega) (by omega))
  have HL := Lib.hid (chgL_length C l (-1))
  generalize chgL C l (-1) = D at *
  obtain ⟨a2, c2, rfl, hrD⟩ := ho.rd (by rw [HL.out]; exact hC)
  replace ho := ho.mono hb1.size
  rw [HL.out] at ho ⊢
  have HO := Lib.hid ho
  have hrC2 := hrC.keep hB2
  clear ho hrC hr hb1 hb2
  go_upto_region 5 with ((at_make; refine wpList_make_M _ rfl _ _ 66 rfl Try.underlying66 _ _ C.length rfl rfl (by omega) w.heap.size w2.heap.size rfl hB2.size ?_; intro w3 ho3 hb3 hz3))
  rw [← marks_zero (freeB C D)] at ho3
  go_wp2_with fail
  go_loopw [9] (fun i wr => ∃ k : Nat, k ≤ C.length ∧ i = .int .i64 k ∧ negB (D.take k) = false ∧ OwnM wr w.heap.size (.slice (some ⟨w2.heap.size, 0, none⟩) C.length C.length) (marks (freeB C D) k C.length) ∧ w3.grownBy wr (some w2.heap.size)) (fun i _ => C.length - (intOf i).toNat)
  case atStart => exact ⟨0, Nat.zero_le _, rfl, rfl, ho3, World.grownBy.refl _ _⟩
  case round =>
    obtain ⟨k, hk, rfl, hn, ho, hg⟩ := hrel
    have hB := hb3.onGrow hg (by intro j hj; simp at hj; omega)
    have HM := Lib.hid (marks_length (freeB C D) k C.length)
    have HN := Lib.hid hn
    clear hn
    by_cases hlt : k < C.length
    · have hkD : k < D.length := by rw [HL.out]; exact hlt
      obtain ⟨b, o, rfl, hat⟩ := (hrC2.keep hB).at (by omega)
      have h1 := hat k _ (getD_some C k hlt)
      obtain ⟨b2, o2, rfl, hat2⟩ := (hrD.keep hB).at (by omega)
      have h2 := hat2 k _ (getD_some D k hkD)
      have hcell := ho.cells.1 k _ (getD_someM _ k (by rw [HM.out]; exact hlt))
      have hfree := ho.cells.2 k
      have HS := Lib.hid (marks_set (freeB C D) k C.length)
      have HT := Lib.hid (negB_take D k hkD)
      have HA := Lib.hid (negB_at D k hkD)
      have hDk : D[k] = D.getD k 0 := by rw [List.getD_eq_getElem?_getD, List.getElem?_eq_getElem hkD]; rfl
      rw [hDk] at HT HA
      have hk0 : (0 : Int) ≤ k := by omega
      have hk1 : (k : Int) < C.length := by omega
      obtain ⟨HO2, hg3⟩ := OwnM.set (by rw [HM.out]) ho k (freeB C D k)
      have HO2 := Lib.hid HO2
      rw [HS.out] at HO2
      have HG3 := Lib.hid (World.grownBy.next hg hg3)
      have HFB : Hid (freeB C D k = (decide (D.getD k 0 = 0) && decide (0 < C.getD k 0))) := Lib.hid rfl
      have hBw := Lib.hid (hB2.on hB)
      generalize freeB C D k = fb at *
      generalize (marks (freeB C D) k C.length).getD k false = m0 at *
      generalize D.getD k 0 = y at *
      generalize C.getD k 0 = x at *
      clear hat hat2 hrC2 hrD ho hg hg3 ho3 hB hDk hkD HRD
      by_cases hy : y < 0
      · have d1 : decide (y < 0) = true := decide_eq_true hy
        have HF := Lib.hid (HA.out hy)
        clear hy HA
        go_wp2
        go_ret3
        exact ⟨hBw.out, .inl ⟨HF.out, rfl⟩⟩
      · have d1 : decide (y < 0) = false := decide_eq_false hy
        have HF : Hid (negB (List.take (k + 1) D) = false) := Lib.hid (by rw [HT.out, HN.out, d1]; rfl)
        clear hy HA HT
        by_cases hy0 : y = 0
        · subst hy0
          have d2 : ((0 : Int) == 0) = true := by simp
          by_cases hx : 0 < x
          · have d3 : decide (0 < x) = true := decide_eq_true hx
            have hfb : fb = true := by rw [HFB.out]; simp [hx]
            subst hfb
            go_wp2
            go_roundw
            case rel => exact ⟨k + 1, by omega, by go_num, HF.out, HO2.out, HG3.out⟩
            case measure => simp [intOf]; omega
          · have d3 : decide (0 < x) = false := decide_eq_false hx
            have hfb : fb = false := by rw [HFB.out]; simp [hx]
            subst hfb
            go_wp2
            go_roundw
            case rel => exact ⟨k + 1, by omega, by go_num, HF.out, HO2.out, HG3.out⟩
            case measure => simp [intOf]; omega
        · have d2 : (y == 0) = false := by simpa using hy0
          have hfb : fb = false := by rw [HFB.out]; simp [hy0]
          subst hfb
          clear hy0
          go_wp2
          go_roundw
          case rel => exact ⟨k + 1, by omega, by go_num, HF.out, HO2.out, HG3.out⟩
          case measure => simp [intOf]; omega
    · obtain rfl : k = C.length := by omega
      have HQ := Lib.hid (marks_picks (freeB C D) C.length)
      obtain ⟨a4, c4, he, hr4⟩ := ho.rd (by rw [HM.out]; exact hC)
      injection he with he1 he2 he3
      subst he1
      have hBw := Lib.hid (hB2.on hB)
      have HOD := Lib.hid (HO.out.keep hB)
      have hsz := (hB2.on hB).size
      clear he2 he3 c4 hrC2 hrD ho ho3 hg
      go_wp2_with fail
      have hcon := marked_any (marks (freeB C D) C.length C.length) (some ⟨w2.heap.size, 0, none⟩) C.length _ hr4
      rw [HM.out] at hcon
      refine hcon.mono ?_
      rintro e w5 ⟨v, rfl, ho, hb5⟩
      have HO5 := Lib.hid ho
      have HOD5 := Lib.hid (HOD.out.keep hb5)
      have HB5 := Lib.hid (hBw.out.on hb5)
      clear ho hcon hb5
      go_wp2_with fail
      go_ret3
      have hm := HQ.out
      rw [HM.out] at hm
      have h5 := HO5.out
      rw [hm] at h5
      have hn := HN.out
      rw [List.take_of_length_le (by rw [HL.out]; omega)] at hn
      exact ⟨HB5.out, .inr ⟨hn, _, _, rfl, HOD5.out, h5.mono hsz⟩⟩
theorem rdrop_yes (C : List Int) (l : List E) (a al : Option Addr) (c cl : Nat) (w : World) (hrC : RdI w a C) (hr : Rd w al l) (hw : wfL l) (hp : permB C.length l = true) (hR : inR 0 1000000000 C) (hl : l.length ≤ 1000000000)
    (D : List Int) (hD : chgL C l (-1) = D) (F : List E) (hF : runsL (picks (freeB C D) C.length) = F) (hn : negB D = false) :
    Calls Try.prog 50 #[.slice a C.length c, .slice al l.length cl] w fun e w' => ∃ v f, e = .returned (.tuple #[v, f, .int .i64 0]) ∧ OwnI w' w.heap.size v D ∧ OwnE w' w.heap.size f F ∧ Below w.heap.size w w' := by
  subst hD
  subst hF
  refine (rdrop_any C l a al c cl w hrC hr hw hp hR hl).mono ?_
  rintro e w' ⟨hb, h | h⟩
  · rw [hn] at h; cases h.1
  · obtain ⟨_, v, f, he, h1, h2⟩ := h
    exact ⟨v, f, he, h1, h2, hb⟩
theorem rdrop_state (C : List Int) (l : List E) (a al : Option Addr) (c cl : Nat) (w : World) (hrC : RdI w a C) (hr : Rd w al l) (hw : wfL l) (hp : permB C.length l = true) (hR : inR 0 1000000000 C) (hl : l.length ≤ 1000000000) (hn : negB (chgL C l (-1)) = true) :
    Calls Try.prog 50 #[.slice a C.length c, .slice al l.length cl] w fun e w' => e = .returned (.tuple #[.slice none 0 0, .slice none 0 0, .int .i64 8]) ∧ Below w.heap.size w w' := by
  refine (rdrop_any C l a al c cl w hrC hr hw hp hR hl).mono ?_
  rintro e w' ⟨hb, h | h⟩
  · exact ⟨h.2, hb⟩
  · rw [hn] at h; cases h.1
set_option maxRecDepth 100000 in
set_option maxHeartbeats 1000000 in
theorem rdrop_no (C : List Int) (l : List E) (a al : Option Addr) (c cl : Nat) (w : World) (hC : C.length ≤ 65536) (hr : Rd w al l) (hw : wfL l) (hp : permB C.length l = false) :
    Calls Try.prog 50 #[.slice a C.length c, .slice al l.length cl] w fun e w' => e = .returned (.tuple #[.slice none 0 0, .slice none 0 0, .int .i64 2]) ∧ Below w.heap.size w w' := by
  have HP := Lib.hid hp
  clear hp
  go_enter Try.func50, Try.ntmps50
  go_wp2_with fail
  refine (rpermitted_is C.length l a al c cl _ hC hr hw false HP.out).mono ?_
  rintro e w1 ⟨rfl, hb1⟩
  go_wp2_with fail
  go_ret3
  exact ⟨rfl, hb1⟩
end Go.Proofs.Ytolhajkbamhdgaa
