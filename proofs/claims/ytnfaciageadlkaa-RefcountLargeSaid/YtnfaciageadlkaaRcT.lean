/-
  Plain laws of RefcountLarge: two runs counted.
  Conditions: as each theorem says.
-/
import Derived.Test.YtnfaciageadlkaaGG
namespace Go.Proofs.Ytnfaciageadlkaa
set_option linter.unusedSimpArgs false
set_option linter.unusedVariables false
set_option maxRecDepth 100000

/-- What two extents have in common. -/
def commonX (x y : E) : Int := max 0 (min (x.s + x.n) (y.s + y.n) - max x.s y.s)
def inN (N : Nat) (x : E) : Prop := 1 ≤ x.n ∧ 0 ≤ x.s ∧ x.s + x.n ≤ N
theorem area_common (N : Nat) (x y : E) (hx : inN N x) (hy : inN N y) : (area (fun i => inX x i && inX y i) N : Int) = commonX x y := by
  obtain ⟨x1, x2, x3⟩ := hx
  obtain ⟨y1, y2, y3⟩ := hy
  unfold commonX
  by_cases h : max x.s y.s ≤ min (x.s + x.n) (y.s + y.n)
  · rw [area_congr _ (fun i => decide ((max x.s y.s).toNat ≤ i) && decide (i < (min (x.s + x.n) (y.s + y.n)).toNat)) N fun i _ => by
      rw [Bool.eq_iff_iff]
      simp only [Bool.and_eq_true, inX_iff, decide_eq_true_eq]
      omega]
    rw [area_span _ _ _ (by omega)]
    omega
  · rw [area_false _ N fun i _ => by
      cases hb : (inX x i && inX y i)
      · rfl
      · simp only [Bool.and_eq_true, inX_iff] at hb
        omega]
    omega
section
variable {N : Nat} {x y : E} (hx : inN N x) (hy : inN N y)
include hx hy
theorem two_perm : permB N [x, y] = true := (permB_iff _ _).2 fun z hz => by
  simp at hz
  rcases hz with rfl | rfl
  · exact hx
  · exact hy
theorem two_get (i : Nat) (hi : i < N) : (chgL (List.replicate N 0) [x, y] 1).getD i 0 = (if inX x i = true then 1 else 0) + (if inX y i = true then 1 else 0) := by
  rw [chgL_get [x, y] 1 _ (by rw [List.length_replicate]; exact two_perm hx hy) i (by rw [List.length_replicate]; exact hi)]
  rw [List.getD_eq_getElem?_getD, List.getElem?_replicate, if_pos hi]
  simp only [Option.getD_some, cnt, inX_iff]
  omega
theorem two_length : (chgL (List.replicate N 0) [x, y] 1).length = N := by
  have _h := hx
  have _k := hy
  rw [chgL_length, List.length_replicate]
theorem two_range : inR 0 2 (chgL (List.replicate N 0) [x, y] 1) := inR_get.2 fun i hi => by
  rw [two_length hx hy] at hi
  rw [two_get hx hy i hi]
  split <;> split <;> omega
theorem two_sum : sumC (chgL (List.replicate N 0) [x, y] 1) = x.n + y.n := by
  rw [sum_chg _ _ _ (by rw [List.length_replicate]; exact two_perm hx hy)]
  have h0 : sumC (List.replicate N 0) = 0 := by
    have := sum_bound (List.replicate N 0) 0 0 (inR_zero N)
    unfold sumC
    omega
  rw [h0]
  simp [lenL]
theorem two_used : usedC (chgL (List.replicate N 0) [x, y] 1) = x.n + y.n - commonX x y := by
  have h1 := used_zero _ _ (two_range hx hy)
  rw [two_length hx hy] at h1
  have h2 := area_not (fun i => inX x i || inX y i) N
  have h3 := area_or_and (inX x) (inX y) N
  have h4 := area_common N x y hx hy
  have h5 := area_inX x N hx.2.1 (by have := hx.1; omega) hx.2.2
  have h6 := area_inX y N hy.2.1 (by have := hy.1; omega) hy.2.2
  rw [area_congr (zeroB _) (fun i => !(inX x i || inX y i)) N fun i hi => by
    unfold zeroB
    rw [two_get hx hy i hi]
    cases inX x i <;> cases inX y i <;> rfl] at h1
  have := hx.1
  have := hy.1
  omega
theorem two_single : singleC (chgL (List.replicate N 0) [x, y] 1) [x, y] = x.n + y.n - 2 * commonX x y := by
  unfold singleC
  rw [two_length hx hy]
  have h3 := area_or_and (inX x) (inX y) N
  have h4 := area_common N x y hx hy
  have h5 := area_inX x N hx.2.1 (by have := hx.1; omega) hx.2.2
  have h6 := area_inX y N hy.2.1 (by have := hy.1; omega) hy.2.2
  have h7 := area_split (fun i => inX x i || inX y i) (fun i => inX x i && inX y i) N
  rw [area_congr (fun i => (inX x i || inX y i) && (inX x i && inX y i)) (fun i => inX x i && inX y i) N fun i _ => by cases inX x i <;> cases inX y i <;> rfl] at h7
  rw [area_congr (fun i => listB [x, y] i && oneB _ i) (fun i => (inX x i || inX y i) && !(inX x i && inX y i)) N fun i hi => by
    have e1 : listB [x, y] i = (inX x i || inX y i) := by
      simp [listB, listX, hx.1, hy.1]
    rw [e1]
    unfold oneB
    rw [two_get hx hy i hi]
    cases inX x i <;> cases inX y i <;> rfl]
  have := hx.1
  have := hy.1
  omega
theorem one_perm : permB N [x] = true := (permB_iff _ _).2 fun z hz => by
  have _k := hy
  simp at hz
  subst hz
  exact hx
theorem back_get (i : Nat) (hi : i < N) : (chgL (chgL (List.replicate N 0) [x, y] 1) [x] (-1)).getD i 0 = if inX y i = true then 1 else 0 := by
  rw [chgL_get [x] (-1) _ (by rw [two_length hx hy]; exact one_perm hx hy) i (by rw [two_length hx hy]; exact hi), two_get hx hy i hi]
  simp only [cnt, inX_iff]
  omega
theorem back_length : (chgL (chgL (List.replicate N 0) [x, y] 1) [x] (-1)).length = N := by rw [chgL_length, two_length hx hy]
theorem back_range : inR 0 1 (chgL (chgL (List.replicate N 0) [x, y] 1) [x] (-1)) := inR_get.2 fun i hi => by
  rw [back_length hx hy] at hi
  rw [back_get hx hy i hi]
  split <;> omega
theorem back_neg : negB (chgL (chgL (List.replicate N 0) [x, y] 1) [x] (-1)) = false := (negB_iff _).2 fun z hz => (back_range hx hy z hz).1
theorem back_used : usedC (chgL (chgL (List.replicate N 0) [x, y] 1) [x] (-1)) = y.n := by
  have h1 := used_zero _ _ (back_range hx hy)
  rw [back_length hx hy] at h1
  have h2 := area_not (inX y) N
  have h6 := area_inX y N hy.2.1 (by have := hy.1; omega) hy.2.2
  rw [area_congr (zeroB _) (fun i => !inX y i) N fun i hi => by
    unfold zeroB
    rw [back_get hx hy i hi]
    cases inX y i <;> rfl] at h1
  have := hy.1
  omega
theorem back_of : ofC (chgL (chgL (List.replicate N 0) [x, y] 1) [x] (-1)) y.s = 1 := by
  unfold ofC
  rw [back_length hx hy, if_pos ⟨hy.2.1, by have := hy.1; have := hy.2.2; omega⟩, back_get hx hy _ (by have := hy.1; have := hy.2.1; have := hy.2.2; omega), if_pos]
  rw [inX_iff]
  have := hy.1
  have := hy.2.1
  omega
theorem back_free (hN : N ≤ 65536) : lenL (runsL (freedL (chgL (chgL (List.replicate N 0) [x, y] 1) [x] (-1)) [x])) = x.n - commonX x y := by
  rw [runs_mem (B := picks (fun i => inX x i && !inX y i) N) fun e => ?_, lenL_picks _ _ hN]
  · have h4 := area_common N x y hx hy
    have h5 := area_inX x N hx.2.1 (by have := hx.1; omega) hx.2.2
    have h7 := area_split (inX x) (inX y) N
    have := hx.1
    omega
  · rw [mem_freed _ _ N (one_perm hx hy)]
    unfold picks
    rw [List.mem_map]
    constructor
    · rintro ⟨i, rfl, h1, h2, h3⟩
      refine ⟨i, List.mem_filter.2 ⟨List.mem_range.2 h3, ?_⟩, rfl⟩
      unfold zeroB at h1
      rw [back_get hx hy i h3] at h1
      simp only [decide_eq_true_eq, cnt] at h1 h2
      have e1 : inX x i = true := by rw [inX_iff]; split at h2 <;> omega
      rw [e1]
      cases hb : inX y i
      · rfl
      · rw [hb] at h1; simp at h1
    · rintro ⟨i, hi, rfl⟩
      obtain ⟨h1, h2⟩ := List.mem_filter.1 hi
      have h1 := List.mem_range.1 h1
      simp only [Bool.and_eq_true, Bool.not_eq_true'] at h2
      refine ⟨i, rfl, ?_, ?_, h1⟩
      · unfold zeroB
        rw [back_get hx hy i h1, h2.2]
        rfl
      · simp only [cnt]
        rw [if_pos ((inX_iff _ _).1 h2.1)]
        omega
end
end Go.Proofs.Ytnfaciageadlkaa
