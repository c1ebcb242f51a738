/-
  Plain laws on how many slots a test picks, and on the sizes of runs.
  Conditions: as each theorem says.
-/
import Derived.Test.YtolhajkbamhdgaaRcP
namespace Go.Proofs.Ytolhajkbamhdgaa
set_option linter.unusedSimpArgs false
set_option linter.unusedVariables false

/-- How many numbers below n a test picks. -/
def area (f : Nat → Bool) : Nat → Nat
  | 0 => 0
  | n + 1 => area f n + if f n = true then 1 else 0
theorem area_le (f : Nat → Bool) (n : Nat) : area f n ≤ n := by
  induction n with
  | zero => simp [area]
  | succ n ih => simp only [area]; split <;> omega
theorem area_congr (f g : Nat → Bool) (n : Nat) (h : ∀ i, i < n → f i = g i) : area f n = area g n := by
  induction n with
  | zero => rfl
  | succ n ih =>
    simp only [area]
    rw [ih fun i hi => h i (by omega), h n (by omega)]
theorem area_span (a b n : Nat) (hab : a ≤ b) : area (fun i => decide (a ≤ i) && decide (i < b)) n = min b n - min a n := by
  induction n with
  | zero => simp [area]
  | succ n ih =>
    simp only [area]
    rw [ih]
    simp only [Bool.and_eq_true, decide_eq_true_eq]
    split <;> omega
theorem area_or (f g : Nat → Bool) (n : Nat) (h : ∀ i, i < n → f i = true → g i = true → False) : area (fun i => f i || g i) n = area f n + area g n := by
  induction n with
  | zero => rfl
  | succ n ih =>
    simp only [area]
    rw [ih fun i hi => h i (by omega)]
    have := h n (by omega)
    rcases Bool.eq_false_or_eq_true (f n) with hf | hf <;> rcases Bool.eq_false_or_eq_true (g n) with hg | hg <;> simp_all <;> omega
theorem area_false (f : Nat → Bool) (n : Nat) (h : ∀ i, i < n → f i = false) : area f n = 0 := by
  induction n with
  | zero => rfl
  | succ n ih =>
    simp only [area]
    rw [ih fun i hi => h i (by omega), h n (by omega)]
    rfl
theorem area_cut (f : Nat → Bool) (n m : Nat) (hn : n ≤ m) (h : ∀ i, n ≤ i → i < m → f i = false) : area f m = area f n := by
  induction m with
  | zero => obtain rfl : n = 0 := by omega
            rfl
  | succ m ih =>
    by_cases he : n = m + 1
    · subst he; rfl
    · simp only [area]
      rw [ih (by omega) fun i h1 h2 => h i h1 (by omega), h m (by omega) (by omega)]
      simp
theorem area_mono (f g : Nat → Bool) (n : Nat) (h : ∀ i, i < n → f i = true → g i = true) : area f n ≤ area g n := by
  induction n with
  | zero => exact Nat.le_refl _
  | succ n ih =>
    simp only [area]
    have := ih fun i hi => h i (by omega)
    have := h n (by omega)
    rcases Bool.eq_false_or_eq_true (f n) with hf | hf <;> rcases Bool.eq_false_or_eq_true (g n) with hg | hg <;> simp_all <;> omega
theorem area_split (f g : Nat → Bool) (n : Nat) : area f n = area (fun i => f i && g i) n + area (fun i => f i && !g i) n := by
  induction n with
  | zero => rfl
  | succ n ih =>
    simp only [area]
    rw [ih]
    rcases Bool.eq_false_or_eq_true (f n) with hf | hf <;> rcases Bool.eq_false_or_eq_true (g n) with hg | hg <;> simp [hf, hg] <;> omega
theorem area_or_and (f g : Nat → Bool) (n : Nat) : area (fun i => f i || g i) n + area (fun i => f i && g i) n = area f n + area g n := by
  induction n with
  | zero => rfl
  | succ n ih =>
    simp only [area]
    rcases Bool.eq_false_or_eq_true (f n) with hf | hf <;> rcases Bool.eq_false_or_eq_true (g n) with hg | hg <;> simp [hf, hg] <;> omega
theorem area_not (f : Nat → Bool) (n : Nat) : area f n + area (fun i => !f i) n = n := by
  induction n with
  | zero => rfl
  | succ n ih =>
    simp only [area]
    rcases Bool.eq_false_or_eq_true (f n) with hf | hf <;> simp [hf] <;> omega
theorem area_zero_iff (f : Nat → Bool) (n : Nat) : area f n = 0 ↔ ∀ i, i < n → f i = false := by
  constructor
  · induction n with
    | zero => intro _ i hi; omega
    | succ n ih =>
      intro h i hi
      simp only [area] at h
      have h1 := ih (by omega)
      by_cases he : i = n
      · subst he
        cases hf : f i
        · rfl
        · rw [if_pos hf] at h; omega
      · exact h1 i (by omega)
  · exact area_false f n
/-- The test holds on the extent's slots. -/
def inX (x : E) (i : Nat) : Bool := decide (x.s ≤ (i : Int)) && decide ((i : Int) < x.s + x.n)
theorem inX_iff (x : E) (i : Nat) : inX x i = true ↔ x.s ≤ (i : Int) ∧ (i : Int) < x.s + x.n := by simp [inX]
def hasB (R : List E) (i : Nat) : Bool := R.any fun x => okB x && inX x i
theorem hasB_iff (R : List E) (i : Nat) : hasB R i = true ↔ Has R (i : Int) := by
  unfold hasB Has
  rw [List.any_eq_true]
  constructor
  · rintro ⟨x, hx, h⟩
    simp only [Bool.and_eq_true, inX_iff] at h
    exact ⟨x, hx, h.1, h.2.1, h.2.2⟩
  · rintro ⟨x, hx, h1, h2, h3⟩
    exact ⟨x, hx, by simp only [Bool.and_eq_true, inX_iff]; exact ⟨h1, h2, h3⟩⟩
theorem area_inX (x : E) (n : Nat) (h0 : 0 ≤ x.s) (h1 : 0 ≤ x.n) (h2 : x.s + x.n ≤ n) : area (inX x) n = x.n.toNat := by
  rw [area_congr (inX x) (fun i => decide (x.s.toNat ≤ i) && decide (i < x.s.toNat + x.n.toNat)) n fun i _ => by
    rw [Bool.eq_iff_iff, inX_iff]; simp only [Bool.and_eq_true, decide_eq_true_eq]; omega]
  rw [area_span _ _ _ (by omega)]
  omega
theorem has_lt {R : List E} {s : Int} (h : Has R s) : 0 ≤ s ∧ s < 65536 := by
  obtain ⟨x, _, h1, h2, h3⟩ := h
  have := (okB_iff x).1 h1
  omega
theorem hasB_far (R : List E) (i : Nat) (h : 65536 ≤ i) : hasB R i = false := by
  cases hb : hasB R i
  · rfl
  · have := has_lt ((hasB_iff _ _).1 hb)
    omega
theorem lenL_cons (x : E) (r : List E) : lenL (x :: r) = x.n + lenL r := by simp [lenL]
/-- The size of runs is the number of their slots. -/
theorem lenL_canon (R : List E) : Canon R → lenL R = area (hasB R) 65536 := by
  induction R with
  | nil =>
    intro _
    rw [area_false _ _ fun i _ => by simp [hasB]]
    rfl
  | cons x r ih =>
    rintro ⟨h1, h2⟩
    rw [List.pairwise_cons] at h2
    have h3 := ih ⟨fun y hy => h1 y (by simp [hy]), h2.2⟩
    have hx := (h1 x (by simp)).2
    obtain ⟨e1, e2, e3, e4, e5⟩ := (okB_iff x).1 hx
    rw [lenL_cons, h3]
    rw [area_congr (hasB (x :: r)) (fun i => inX x i || hasB r i) _ fun i _ => by simp [hasB, hx]]
    rw [area_or _ _ _ (fun i _ ha hb => ?_), area_inX x _ e3 (by omega) (by omega)]
    · omega
    · obtain ⟨y, hy, _, h5, _⟩ := (hasB_iff _ _).1 hb
      have := h2.1 y hy
      have := (inX_iff _ _).1 ha
      omega
theorem hasB_picks (f : Nat → Bool) (k : Nat) (hk : k ≤ 65536) (i : Nat) : hasB (picks f k) i = (decide (i < k) && f i) := by
  rw [Bool.eq_iff_iff, hasB_iff, has_picks f k hk]
  simp only [Bool.and_eq_true, decide_eq_true_eq, Int.toNat_natCast]
  exact ⟨fun h => ⟨by omega, h.2.2⟩, fun h => ⟨by omega, by omega, h.2⟩⟩
theorem hasB_runs (l : List E) (i : Nat) : hasB (runsL l) i = hasB l i := by
  rw [Bool.eq_iff_iff, hasB_iff, hasB_iff]
  exact (runs_facts l).2 i
theorem lenL_picks (f : Nat → Bool) (k : Nat) (hk : k ≤ 65536) : lenL (runsL (picks f k)) = area f k := by
  rw [lenL_canon _ (runs_facts _).1]
  rw [area_congr _ (fun i => decide (i < k) && f i) _ fun i _ => by rw [hasB_runs, hasB_picks f k hk]]
  rw [area_cut _ k 65536 hk fun i h1 _ => by simp; omega]
  rw [area_congr _ f k fun i hi => by simp [hi]]
/-- Runs told by their slots. -/
theorem runs_ext {A B : List E} (hA : Canon A) (hB : Canon B) (h : ∀ i, i < 65536 → hasB A i = hasB B i) : A = B := by
  refine canon_unique A B hA hB fun s => ?_
  constructor
  · intro hs
    have := has_lt hs
    obtain ⟨i, rfl⟩ : ∃ i : Nat, s = i := ⟨s.toNat, by omega⟩
    rw [← hasB_iff, ← h i (by omega), hasB_iff]; exact hs
  · intro hs
    have := has_lt hs
    obtain ⟨i, rfl⟩ : ∃ i : Nat, s = i := ⟨s.toNat, by omega⟩
    rw [← hasB_iff, h i (by omega), hasB_iff]; exact hs

/-! ### Used, free and total -/
theorem used_take (C : List Int) (hi : Int) (h : inR 0 hi C) (k : Nat) : k ≤ C.length → usedC (C.take k) + area (zeroB C) k = k := by
  induction k with
  | zero => intro _; simp [usedC, area]
  | succ k ih =>
    intro hk
    have hlt : k < C.length := by omega
    rw [usedC_take C k hlt]
    have h1 := ih (by omega)
    have h2 := (h C[k] (List.getElem_mem hlt)).1
    simp only [area, zeroB, decide_eq_true_eq]
    rw [List.getD_eq_getElem?_getD, List.getElem?_eq_getElem hlt]
    simp only [Option.getD_some]
    split <;> omega
theorem used_zero (C : List Int) (hi : Int) (h : inR 0 hi C) : usedC C + area (zeroB C) C.length = C.length := by
  have := used_take C hi h C.length (Nat.le_refl _)
  rwa [List.take_length] at this
theorem lenL_zero (C : List Int) (hN : C.length ≤ 65536) : lenL (zeroL C) = area (zeroB C) C.length := lenL_picks _ _ hN
theorem chg_back (C : List Int) (l : List E) (h : permB C.length l = true) : chgL (chgL C l 1) l (-1) = C := by
  refine counts_ext (by rw [chgL_length, chgL_length]) fun i hi => ?_
  rw [chgL_length, chgL_length] at hi
  rw [chgL_get l (-1) _ (by rw [chgL_length]; exact h) i (by rw [chgL_length]; exact hi), chgL_get l 1 _ h i hi]
  omega
theorem chg_up {C : List Int} {l : List E} {hi : Int} (h : permB C.length l = true) (hC : inR 0 hi C) : inR 0 (hi + l.length) (chgL C l 1) := by
  refine inR_get.2 fun i hlt => ?_
  rw [chgL_length] at hlt
  rw [chgL_get l 1 _ h i hlt]
  have := inR_get.1 hC i hlt
  have := cnt_bound l i
  omega
theorem chg_down {C : List Int} {l : List E} {hi : Int} (h : permB C.length l = true) (hC : inR 0 hi C) (h0 : ∀ x ∈ chgL C l (-1), 0 ≤ x) : inR 0 hi (chgL C l (-1)) := by
  refine inR_get.2 fun i hlt => ?_
  have h1 : 0 ≤ (chgL C l (-1)).getD i 0 := by
    rw [List.getD_eq_getElem?_getD, List.getElem?_eq_getElem hlt]
    exact h0 _ (List.getElem_mem hlt)
  refine ⟨h1, ?_⟩
  rw [chgL_length] at hlt
  rw [chgL_get l (-1) _ h i hlt]
  have := inR_get.1 hC i hlt
  have := cnt_bound l i
  omega
theorem sum_addR (C : List Int) (s : Nat) (d : Int) (k : Nat) (h : s + k ≤ C.length) : (addR C s d k).sum = C.sum + d * k := by
  induction k with
  | zero => simp [addR]
  | succ k ih =>
    have hl : s + k < (addR C s d k).length := by rw [addR_length]; omega
    have h1 : ∀ (L : List Int) (j : Nat) (v : Int), j < L.length → (L.set j v).sum = L.sum - L.getD j 0 + v := by
      intro L
      induction L with
      | nil => intro j v hj; simp at hj
      | cons a r ih =>
        intro j v hj
        cases j with
        | zero => simp; omega
        | succ j =>
          have := ih j v (by simpa using hj)
          simp only [List.set_cons_succ, List.sum_cons, List.getD_cons_succ]
          omega
    simp only [addR]
    rw [h1 _ _ _ hl, ih (by omega)]
    rw [show ((k + 1 : Nat) : Int) = k + 1 by omega, Int.mul_add]
    omega
theorem sum_chg (l : List E) (d : Int) : ∀ (C : List Int), permB C.length l = true → sumC (chgL C l d) = sumC C + d * lenL l := by
  induction l with
  | nil => intro C _; simp [chgL, lenL]
  | cons x r ih =>
    intro C hp
    have hp' := (permB_iff _ _).1 hp
    obtain ⟨h1, h2, h3⟩ := hp' x (by simp)
    have := ih (addR C x.s.toNat d x.n.toNat) (by rw [addR_length]; exact (permB_iff _ _).2 fun y hy => hp' y (by simp [hy]))
    simp only [chgL, List.foldl_cons] at this ⊢
    rw [this, lenL_cons]
    unfold sumC
    rw [sum_addR _ _ _ _ (by omega), Int.mul_add, Int.toNat_of_nonneg (by omega)]
    omega
/-- The slots that become used. -/
theorem fresh_is (C : List Int) (l : List E) (hN : C.length ≤ 65536) (h : permB C.length l = true) (hC : ∀ i, i < C.length → 0 ≤ C.getD i 0) :
    runsL (freedL C l) = runsL (picks (fun i => decide (C.getD i 0 = 0) && decide (0 < (chgL C l 1).getD i 0)) C.length) := by
  have h1 := freed_is (chgL C l 1) l (by rw [chgL_length]; exact hN) (by rw [chgL_length]; exact h) (fun i hi => by
    rw [chgL_length] at hi
    rw [chgL_get l 1 _ h i hi]
    have := hC i hi
    have := cnt_bound l i
    omega)
  rw [chg_back C l h, chgL_length] at h1
  exact h1
end Go.Proofs.Ytolhajkbamhdgaa
