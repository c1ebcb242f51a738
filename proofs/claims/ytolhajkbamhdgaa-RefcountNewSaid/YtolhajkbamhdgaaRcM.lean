/-
  The walks of the laws RefcountValues and RefcountSums.
  Conditions: none beyond that the arguments can be read.
-/
import Derived.Test.YtolhajkbamhdgaaRcL
namespace Go.Proofs.Ytolhajkbamhdgaa
set_option linter.unusedSimpArgs false
set_option linter.unusedVariables false
open Go.RowKit

/-- Some counts, and some error. -/
def SomeC (hi : Int) (w : World) (e : Ending) (w' : World) : Prop :=
  ∃ (D : List Int) (a : Option Addr) (c : Nat) (k : Int), e = .returned (.tuple #[.agg #[.slice a D.length c], .int .i64 k]) ∧ RdI w' a D ∧ inR 0 hi D ∧ Below w.heap.size w w'
def SomeD (hi : Int) (w : World) (e : Ending) (w' : World) : Prop :=
  ∃ (D : List Int) (a : Option Addr) (c : Nat) (f : Value) (k : Int), e = .returned (.tuple #[.agg #[.slice a D.length c], f, .int .i64 k]) ∧ RdI w' a D ∧ inR 0 hi D ∧ Below w.heap.size w w'
theorem inR_nil (lo hi : Int) : inR lo hi [] := fun x hx => by simp at hx
theorem rdI_nil (w : World) : RdI w none [] := ⟨by simp, .inl rfl⟩
theorem add_some (C : List Int) (l : List E) (a al : Option Addr) (c cl : Nat) (hi : Int) (w : World) (hrC : RdI w a C) (hr : Rd w al l) (hw : wfL l) (hR : inR 0 hi C) (h0 : 0 ≤ hi ∧ hi ≤ 1000000000) (hl : l.length ≤ 8) :
    Calls Try.prog 19 #[.agg #[.slice a C.length c], .slice al l.length cl] w (SomeC (hi + 8) w) := by
  cases hp : permB C.length l
  · refine (add_no C l a al c cl w hrC.1 hr hw hp).mono ?_
    rintro e w' ⟨rfl, hb⟩
    exact ⟨[], none, 0, 2, rfl, rdI_nil _, inR_nil _ _, hb⟩
  · refine (add_yes C l a al c cl w hrC hr hw hp (inR_mono hR (by omega) (by omega)) (by omega)).mono ?_
    rintro e w' ⟨v, rfl, ho, hb⟩
    obtain ⟨a2, c2, rfl, hr2⟩ := ho.rd (by rw [chgL_length]; exact hrC.1)
    exact ⟨_, a2, c2, 0, rfl, hr2, inR_mono (chg_up hp hR) (by omega) (by omega), hb⟩
theorem drop_some (C : List Int) (l : List E) (a al : Option Addr) (c cl : Nat) (hi : Int) (w : World) (hrC : RdI w a C) (hr : Rd w al l) (hw : wfL l) (hR : inR 0 hi C) (h0 : 0 ≤ hi ∧ hi ≤ 1000000000) (hl : l.length ≤ 8) :
    Calls Try.prog 21 #[.agg #[.slice a C.length c], .slice al l.length cl] w (SomeD (hi + 8) w) := by
  cases hp : permB C.length l
  · refine (drop_no C l a al c cl w hrC.1 hr hw hp).mono ?_
    rintro e w' ⟨rfl, hb⟩
    exact ⟨[], none, 0, _, 2, rfl, rdI_nil _, inR_nil _ _, hb⟩
  · cases hn : negB (chgL C l (-1))
    · refine (drop_yes C l a al c cl w hrC hr hw hp (inR_mono hR (by omega) (by omega)) (by omega) hn).mono ?_
      rintro e w' ⟨v, f, rfl, ho, _, hb⟩
      obtain ⟨a2, c2, rfl, hr2⟩ := ho.rd (by rw [chgL_length]; exact hrC.1)
      exact ⟨_, a2, c2, f, 0, rfl, hr2, inR_mono (chg_down hp hR ((negB_iff _).1 hn)) (by omega) (by omega), hb⟩
    · refine (drop_state C l a al c cl w hrC hr hw hp (inR_mono hR (by omega) (by omega)) (by omega) hn).mono ?_
      rintro e w' ⟨rfl, hb⟩
      exact ⟨[], none, 0, _, 8, rfl, rdI_nil _, inR_nil _ _, hb⟩

/-- What the laws keep: the box of c, both counts, the list. -/
structure Kept (w0 w : World) (T : Nat) (C : List Int) (a3 a4 : Option Addr) (c3 : Nat) (al : Option Addr) (l : List E) : Prop where
  t : w.cell? ⟨T, 0, none⟩ = some (.slice a3 C.length c3)
  c : RdI w a3 C
  d : RdI w a4 C
  l : Rd w al l
  B : Below w0.heap.size w0 w
theorem Kept.later {w0 w w' : World} {T : Nat} {C : List Int} {a3 a4 : Option Addr} {c3 : Nat} {al : Option Addr} {l : List E} (h : Kept w0 w T C a3 a4 c3 al l) (hb : Below w.heap.size w w') : Kept w0 w' T C a3 a4 c3 al l :=
  ⟨hb.keep h.t, h.c.keep hb, h.d.keep hb, h.l.keep hb, h.B.on hb⟩
set_option maxRecDepth 100000 in
set_option maxHeartbeats 4000000 in
theorem law_values (i : Int) (S : List (Bool × List E)) (l : List E) (a al : Option Addr) (c cl : Nat) (w : World) (hi : 0 ≤ i ∧ i ≤ 255) (hr : RdS w a S) (hl : l.length ≤ 9223372036854775807 ∧ l.length ≤ cl ∧ cl ≤ 9223372036854775807) (hrl : l.length ≤ 46912496118443 → Rd w al l) (hw : wfL l) :
    Calls Try.prog 6 #[.int .u8 i, .slice a S.length c, .slice al l.length cl] w fun e w' => e = .returned (.bool true) ∧ Below w.heap.size w w' := by
  obtain ⟨n, rfl⟩ := Int.eq_ofNat_of_zero_le hi.1
  have hn : n ≤ 255 := by omega
  have hlen := hr.1
  have hlen2 := hl.1
  cases hf : (fewB S && decide (S.length ≤ 20))
  · have HF := Lib.hid hf
    clear hf hrl
    go_enter Try.func6, Try.ntmps6
    go_wp2_with fail
    refine (awake34_any _).mono ?_
    rintro e w1 ⟨rfl, hb1⟩
    go_wp2_with fail
    refine (few_is S a c _ (hr.keep hb1) _ HF.out).mono ?_
    rintro e w2 ⟨rfl, hb2⟩
    have hB2 := hb1.on hb2
    go_wp2_with fail
    go_ret
    exact ⟨rfl, hB2⟩
  have HF := Lib.hid hf
  clear hf
  by_cases h8 : 8 < l.length
  · clear hrl
    go_enter Try.func6, Try.ntmps6
    go_wp2_with fail
    refine (awake34_any _).mono ?_
    rintro e w1 ⟨rfl, hb1⟩
    go_wp2_with fail
    refine (few_is S a c _ (hr.keep hb1) _ HF.out).mono ?_
    rintro e w2 ⟨rfl, hb2⟩
    have hB2 := hb1.on hb2
    go_wp2_with fail
    go_ret
    exact ⟨rfl, hB2⟩
  have h8' : l.length ≤ 8 := by omega
  have HRL := Lib.hid (hrl (by omega))
  have HW := Lib.hid hw
  clear hrl h8 hw
  go_enter Try.func6, Try.ntmps6
  go_wp2_with fail
  refine (awake34_any _).mono ?_
  rintro e w1 ⟨rfl, hb1⟩
  go_wp2_with fail
  refine (few_is S a c _ (hr.keep hb1) _ HF.out).mono ?_
  rintro e w2 ⟨rfl, hb2⟩
  have hB2 := hb1.on hb2
  go_wp2_with fail
  have hff := HF.out
  simp only [Bool.and_eq_true, decide_eq_true_eq] at hff
  obtain ⟨h1, h2⟩ := hff
  have HFB := Lib.hid h1
  clear h1
  refine (build_any n S a c _ hn (hr.keep hB2) HFB.out h2).mono ?_
  rintro e w3 ⟨C, a3, a4, c3, c4, rfl, hCn, hR, hrc, hrd, hb3⟩
  have hC0 : C.length ≤ 99 := by omega
  have HB := Lib.hid (hB2.on hb3)
  have HR := Lib.hid hR
  have HC := Lib.hid hrc
  have HD := Lib.hid hrd
  replace HRL := Lib.hid (HRL.out.keep HB.out)
  clear hCn hR hrc hrd hb3 hb1 hb2 hB2 hr HFB HF
  have HK : Hid (Kept w (w3.alloc (.cells #[.slice a3 C.length c3] 27)) w3.heap.size C a3 a4 c3 al l) :=
    Lib.hid ⟨by simp, HC.out.keep ((Below.refl _ _).onAlloc _), HD.out.keep ((Below.refl _ _).onAlloc _), HRL.out.keep ((Below.refl _ _).onAlloc _), HB.out.onAlloc _⟩
  clear HC HD HRL HB
  go_wp2_with fail
  refine (add_some C l a3 al c3 cl 160 _ HK.out.c HK.out.l HW.out HR.out (by omega) h8').mono ?_
  rintro e w4 ⟨D, a5, c5, k5, rfl, hrD, hRD, hb⟩
  replace HK := Lib.hid (HK.out.later hb)
  have ht := HK.out.t
  have HRD := Lib.hid hRD
  have hxx : (w4.alloc (.cells #[.slice a5 D.length c5] 27)).cell? ⟨w4.heap.size, 0, none⟩ = some (.slice a5 D.length c5) := by simp
  have hrX := hrD.keep ((Below.refl w4.heap.size w4).onAlloc (.cells #[.slice a5 D.length c5] 27))
  have HK2 := Lib.hid (HK.out.later ((Below.refl w4.heap.size w4).onAlloc (.cells #[.slice a5 D.length c5] 27)))
  have HRX := Lib.hid hrX
  clear hb hrD hRD hrX
  go_wp2_with fail
  refine (add_some D l a5 al c5 cl 168 _ HRX.out HK2.out.l HW.out HRD.out (by omega) h8').mono ?_
  rintro e w5 ⟨D2, a6, c6, k6, rfl, _, _, hb⟩
  have HK := Lib.hid (HK2.out.later hb)
  have ht := HK.out.t
  replace hxx := hb.keep hxx
  have HRX := Lib.hid (HRX.out.keep hb)
  clear hb HK2
  go_wp2_with fail
  refine (drop_some D l a5 al c5 cl 168 _ HRX.out HK.out.l HW.out HRD.out (by omega) h8').mono ?_
  rintro e w6 ⟨D3, a7, c7, f7, k7, rfl, _, _, hb⟩
  replace HK := Lib.hid (HK.out.later hb)
  have ht := HK.out.t
  clear hb
  go_wp2_with fail
  refine (drop_some C l a3 al c3 cl 160 _ HK.out.c HK.out.l HW.out HR.out (by omega) h8').mono ?_
  rintro e w7 ⟨D4, a8, c8, f8, k8, rfl, _, _, hb⟩
  replace HK := Lib.hid (HK.out.later hb)
  have ht := HK.out.t
  clear hb
  go_wp2_with fail
  refine (same_counts C a3 a4 c3 c4 _ HK.out.c HK.out.d (inR_mono HR.out (by omega) (by omega))).mono ?_
  rintro e w8 ⟨rfl, hb⟩
  replace HK := Lib.hid (HK.out.later hb)
  have ht := HK.out.t
  go_wp2_with fail
  go_ret
  exact ⟨rfl, HK.out.B⟩

theorem lenL_bd (l : List E) (M : Int) (h : ∀ x ∈ l, 0 ≤ x.n ∧ x.n ≤ M) : 0 ≤ lenL l ∧ lenL l ≤ M * l.length := by
  induction l with
  | nil => simp [lenL]
  | cons x r ih =>
    have h1 := h x (by simp)
    have h2 := ih fun y hy => h y (by simp [hy])
    rw [lenL_cons, List.length_cons, show ((r.length + 1 : Nat) : Int) = r.length + 1 by omega, Int.mul_add]
    omega
theorem slots_is (a : Option Addr) (n m c : Nat) (w : World) (hn : n ≤ 65536) (h : n = m) :
    Calls Try.prog 28 #[.agg #[.slice a n c]] w fun e w' => e = .returned (.int .i64 m) ∧ Below w.heap.size w w' := by
  subst h
  exact slots_any a n c w hn
theorem total_is' (C : List Int) (a : Option Addr) (c : Nat) (r : Int) (w : World) (hrC : RdI w a C) (hR : inR 0 1000000000 C) (h : sumC C = r) :
    Calls Try.prog 26 #[.agg #[.slice a C.length c]] w fun e w' => e = .returned (.int .i64 r) ∧ Below w.heap.size w w' := by subst h; exact total_any C a c w hrC hR
set_option maxRecDepth 100000 in
set_option maxHeartbeats 4000000 in
theorem law_sums (i : Int) (S : List (Bool × List E)) (l : List E) (a al : Option Addr) (c cl : Nat) (w : World) (hi : 0 ≤ i ∧ i ≤ 255) (hr : RdS w a S) (hl : l.length ≤ 9223372036854775807 ∧ l.length ≤ cl ∧ cl ≤ 9223372036854775807) (hrl : l.length ≤ 46912496118443 → Rd w al l) (hw : wfL l) :
    Calls Try.prog 5 #[.int .u8 i, .slice a S.length c, .slice al l.length cl] w fun e w' => e = .returned (.bool true) ∧ Below w.heap.size w w' := by
  obtain ⟨n, rfl⟩ := Int.eq_ofNat_of_zero_le hi.1
  have hn : n ≤ 255 := by omega
  have hlen := hr.1
  have hlen2 := hl.1
  cases hf : (fewB S && decide (S.length ≤ 20))
  · have HF := Lib.hid hf
    clear hf hrl
    go_enter Try.func5, Try.ntmps5
    go_wp2_with fail
    refine (awake34_any _).mono ?_
    rintro e w1 ⟨rfl, hb1⟩
    go_wp2_with fail
    refine (few_is S a c _ (hr.keep hb1) _ HF.out).mono ?_
    rintro e w2 ⟨rfl, hb2⟩
    have hB2 := hb1.on hb2
    go_wp2_with fail
    go_ret
    exact ⟨rfl, hB2⟩
  have HF := Lib.hid hf
  clear hf
  by_cases h8 : 8 < l.length
  · clear hrl
    go_enter Try.func5, Try.ntmps5
    go_wp2_with fail
    refine (awake34_any _).mono ?_
    rintro e w1 ⟨rfl, hb1⟩
    go_wp2_with fail
    refine (few_is S a c _ (hr.keep hb1) _ HF.out).mono ?_
    rintro e w2 ⟨rfl, hb2⟩
    have hB2 := hb1.on hb2
    go_wp2_with fail
    go_ret
    exact ⟨rfl, hB2⟩
  have h8' : l.length ≤ 8 := by omega
  have HRL := Lib.hid (hrl (by omega))
  have HW := Lib.hid hw
  clear hrl h8 hw
  go_enter Try.func5, Try.ntmps5
  go_wp2_with fail
  refine (awake34_any _).mono ?_
  rintro e w1 ⟨rfl, hb1⟩
  go_wp2_with fail
  refine (few_is S a c _ (hr.keep hb1) _ HF.out).mono ?_
  rintro e w2 ⟨rfl, hb2⟩
  have hB2 := hb1.on hb2
  go_wp2_with fail
  have hff := HF.out
  simp only [Bool.and_eq_true, decide_eq_true_eq] at hff
  obtain ⟨h1, h2⟩ := hff
  have HFB := Lib.hid h1
  clear h1
  refine (build_any n S a c _ hn (hr.keep hB2) HFB.out h2).mono ?_
  rintro e w3 ⟨C, a3, a4, c3, c4, rfl, hCn, hR, hrc, hrd, hb3⟩
  have hC0 : C.length ≤ 99 := by omega
  have HB := Lib.hid (hB2.on hb3)
  have HR := Lib.hid hR
  have HC := Lib.hid hrc
  have HD := Lib.hid hrd
  replace HRL := Lib.hid (HRL.out.keep HB.out)
  clear hCn hR hrc hrd hb3 hb1 hb2 hB2 hr HFB HF
  have HK : Hid (Kept w (w3.alloc (.cells #[.slice a3 C.length c3] 27)) w3.heap.size C a3 a4 c3 al l) :=
    Lib.hid ⟨by simp, HC.out.keep ((Below.refl _ _).onAlloc _), HD.out.keep ((Below.refl _ _).onAlloc _), HRL.out.keep ((Below.refl _ _).onAlloc _), HB.out.onAlloc _⟩
  have hRb : Hid (inR 0 1000000000 C) := Lib.hid (inR_mono HR.out (by omega) (by omega))
  clear HC HD HRL HB
  cases hp : permB C.length l
  · have HP := Lib.hid hp
    clear hp
    go_wp2_with fail
    refine (add_no C l a3 al c3 cl _ (by omega) HK.out.l HW.out HP.out).mono ?_
    rintro e w4 ⟨rfl, hb⟩
    replace HK := Lib.hid (HK.out.later hb)
    have ht := HK.out.t
    clear hb
    go_wp2_with fail
    go_ret
    exact ⟨rfl, HK.out.B.onAlloc _⟩
  · have HP := Lib.hid hp
    have HUP := Lib.hid (chg_up hp HR.out)
    have HL := Lib.hid (chgL_length C l 1)
    have HSUM := Lib.hid (sum_chg l 1 C hp)
    have hpx := (permB_iff _ _).1 hp
    have HPX := Lib.hid hpx
    clear hp hpx
    go_wp2_with fail
    refine (add_yes C l a3 al c3 cl _ HK.out.c HK.out.l HW.out HP.out hRb.out (by omega)).mono ?_
    rintro e w4 ⟨v4, rfl, ho4, hb⟩
    generalize chgL C l 1 = D at *
    obtain ⟨a5, c5, rfl, hrD⟩ := ho4.rd (by have := HL.out; omega)
    have HK := Lib.hid (HK.out.later hb)
    have HRD : Hid (inR 0 1000000000 D) := Lib.hid (inR_mono HUP.out (by omega) (by omega))
    have HK := Lib.hid (HK.out.later ((Below.refl w4.heap.size w4).onAlloc (.cells #[.slice a5 D.length c5] 27)))
    have HX := Lib.hid (hrD.keep ((Below.refl w4.heap.size w4).onAlloc (.cells #[.slice a5 D.length c5] 27)))
    have hx : (w4.alloc (.cells #[.slice a5 D.length c5] 27)).cell? ⟨w4.heap.size, 0, none⟩ = some (.slice a5 D.length c5) := by simp
    have HM : Hid (∀ x ∈ l, 0 ≤ x.n ∧ x.n ≤ 65536) := Lib.hid fun x hx => by have := HPX.out x hx; omega
    have HZM : Hid (∀ x ∈ zeroL D, 0 ≤ x.n ∧ x.n ≤ 65536) := Lib.hid fun x hx => by
      have := (okB_iff x).1 ((runs_facts (picks (zeroB D) D.length)).1.1 x hx).2
      omega
    have hzs : (zeroL D).length ≤ 65536 := canon_short (runs_facts (picks (zeroB D) D.length)).1
    have HUZ := Lib.hid (used_zero D _ HRD.out)
    have HZL := Lib.hid (lenL_zero D (by have := HL.out; omega))
    have hXlt := World.block_lt_of_cell? _ _ HK.out.t
    have hDN : D.length ≤ 65536 := by have := HL.out; omega
    clear ho4 hrD hb
    go_wp2_with fail
    generalize w4.alloc (.cells #[.slice a5 D.length c5] 27) = W5 at *
    generalize w4.heap.size = X at *
    go_loopw [12, 14] (fun v t wr => ∃ k : Nat, k ≤ l.length ∧ t = .int .i64 k ∧ v = .int .i64 (lenL (l.take k)) ∧ Below W5.heap.size W5 wr) (fun _ t _ => l.length - (intOf t).toNat)
    case atStart => exact ⟨0, Nat.zero_le _, rfl, rfl, Below.refl _ _⟩
    case round =>
      obtain ⟨k, hk, rfl, rfl, hBk⟩ := hrel
      by_cases hlt : k < l.length
      · obtain ⟨b, o, rfl, hat⟩ := (HK.out.l.keep hBk).at (by omega)
        obtain ⟨h1, h2, h3⟩ := hat k _ (List.getElem?_eq_getElem hlt)
        have HT := Lib.hid (lenL_take l k hlt)
        obtain ⟨m1, m2⟩ := HM.out _ (List.getElem_mem hlt)
        obtain ⟨q1, q2⟩ := lenL_bd (l.take k) 65536 (fun x hx => HM.out x (List.mem_of_mem_take hx))
        have hle := List.length_take_le k l
        have q3 : lenL (l.take k) ≤ 65536 * 65536 := by omega
        have hk0 : (0 : Int) ≤ k := by omega
        have hk1 : (k : Int) < l.length := by omega
        generalize l[k] = x at *
        generalize lenL (l.take k) = sm at *
        clear hat h1 h3 q2
        go_wp2
        go_roundw
        case rel => exact ⟨k + 1, by omega, by go_num, by rw [HT.out], hBk⟩
        case measure => simp [intOf]; omega
      · obtain rfl : k = l.length := by omega
        rw [List.take_length]
        have HK := Lib.hid (HK.out.later hBk)
        have HX := Lib.hid (HX.out.keep hBk)
        replace hx := hBk.keep hx
        have ht := HK.out.t
        clear hBk
        go_wp2_with fail
        refine (zero_any D a5 c5 _ HX.out).mono ?_
        rintro e w6 ⟨z, rfl, hoz, hb⟩
        obtain ⟨za, zc, rfl, hrz⟩ := hoz.rd (by omega)
        have HK := Lib.hid (HK.out.later hb)
        have HX := Lib.hid (HX.out.keep hb)
        replace hx := hb.keep hx
        have ht := HK.out.t
        have HRZ := Lib.hid hrz
        clear hb hoz hrz
        go_wp2_with fail
        go_loopw [13, 16] (fun v t wr => ∃ k : Nat, k ≤ (zeroL D).length ∧ t = .int .i64 k ∧ v = .int .i64 (lenL ((zeroL D).take k)) ∧ Below w6.heap.size w6 wr) (fun _ t _ => (zeroL D).length - (intOf t).toNat)
        case atStart => exact ⟨0, Nat.zero_le _, rfl, rfl, Below.refl _ _⟩
        case round =>
          obtain ⟨k, hk, rfl, rfl, hBk⟩ := hrel
          by_cases hlt : k < (zeroL D).length
          · obtain ⟨b, o, rfl, hat⟩ := (HRZ.out.keep hBk).at (by omega)
            obtain ⟨h1, h2, h3⟩ := hat k _ (List.getElem?_eq_getElem hlt)
            have HT := Lib.hid (lenL_take (zeroL D) k hlt)
            obtain ⟨m1, m2⟩ := HZM.out _ (List.getElem_mem hlt)
            obtain ⟨q1, q2⟩ := lenL_bd ((zeroL D).take k) 65536 (fun x hx => HZM.out x (List.mem_of_mem_take hx))
            have hle := List.length_take_le k (zeroL D)
            have q3 : lenL ((zeroL D).take k) ≤ 65536 * 65536 := by omega
            have hk0 : (0 : Int) ≤ k := by omega
            have hk1 : (k : Int) < (zeroL D).length := by omega
            generalize (zeroL D)[k] = x at *
            generalize lenL ((zeroL D).take k) = sm at *
            clear hat h1 h3 q2
            go_wp2
            go_roundw
            case rel => exact ⟨k + 1, by omega, by go_num, by rw [HT.out], hBk⟩
            case measure => simp [intOf]; omega
          · obtain rfl : k = (zeroL D).length := by omega
            rw [List.take_length]
            have HK := Lib.hid (HK.out.later hBk)
            have HX := Lib.hid (HX.out.keep hBk)
            replace hx := hBk.keep hx
            have ht := HK.out.t
            clear hBk
            have E1 : sumC D = sumC C + lenL l := by have := HSUM.out; omega
            have E2 : usedC D + lenL (zeroL D) = C.length := by have := HUZ.out; have := HZL.out; have := HL.out; omega
            obtain ⟨b1, b2⟩ := sum_bd hRb.out
            obtain ⟨b3, b4⟩ := lenL_bd l 65536 HM.out
            obtain ⟨b5, b6⟩ := used_bd HRD.out
            have b7 := (lenL_bd (zeroL D) 65536 HZM.out).1
            generalize hsc : sumC C = sc at *
            generalize hln : lenL l = ln at *
            generalize huu : usedC D = ud at *
            generalize hzz : lenL (zeroL D) = z at *
            have HSC := Lib.hid hsc
            have HUD := Lib.hid huu
            have HE1 := Lib.hid E1
            have hbb : ((ud + z) == (C.length : Int)) = true := by rw [E2]; simp
            have hc1 : sc ≤ 100000000000 := by omega
            have hc2 : ln ≤ 1000000 := by omega
            have hc3 : ud ≤ 100 := by omega
            have hc4 : z ≤ 100 := by omega
            clear hsc hln huu hzz E1 E2 b2 b4 b6
            go_wp2_with fail
            refine wp_region_next (by kernel_rfl) (by kernel_rfl) ?_
            repeat (go_big_quiet_step (first | (go_at_call 26; exact Calls.next_of (total_is' D a5 c5 _ _ (HX.out.keep (World.below_next _ _)) HRD.out HE1.out)) | (go_at_call 26; exact Calls.next_of (total_is' C a3 c3 _ _ (HK.out.c.keep (World.below_next _ _)) hRb.out HSC.out)) | (go_at_call 27; exact Calls.next_of (used_is D a5 c5 _ _ (HX.out.keep (World.below_next _ _)) HRD.out HUD.out)) | (go_at_call 28; exact Calls.next_of (slots_is a5 D.length C.length c5 _ hDN HL.out)) | (go_at_call 28; exact Calls.next_of (slots_is a3 C.length C.length c3 _ (by omega) rfl))))
            refine wpQuiet_nil ?_
            intro _ hw'
            obtain ⟨nq, hw''⟩ := hw'
            subst hw''
            have HBZ := Lib.hid (HK.out.B.onNext nq)
            go_wp2_with fail
            go_ret
            exact ⟨rfl, HBZ.out⟩
end Go.Proofs.Ytolhajkbamhdgaa
