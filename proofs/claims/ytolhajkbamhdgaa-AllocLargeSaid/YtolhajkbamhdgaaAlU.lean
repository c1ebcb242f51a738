/-
  Plain laws on free runs: where a run fits, the lowest slots, what Take chooses.
  Conditions: as each theorem says.
-/
import Derived.Test.YtolhajkbamhdgaaAlQ
namespace Go.Proofs.Ytolhajkbamhdgaa
set_option linter.unusedSimpArgs false
set_option linter.unusedVariables false

theorem canon_sep {R : List E} (h : Canon R) {x y : E} (hx : x ∈ R) (hy : y ∈ R) : x = y ∨ x.s + x.n < y.s ∨ y.s + y.n < x.s := by
  obtain ⟨i, hi, rfl⟩ := List.getElem_of_mem hx
  obtain ⟨j, hj, rfl⟩ := List.getElem_of_mem hy
  have hp := List.pairwise_iff_getElem.1 h.2
  rcases Nat.lt_trichotomy i j with h1 | h1 | h1
  · exact .inr (.inl (hp i j hi hj h1))
  · subst h1; exact .inl rfl
  · exact .inr (.inr (hp j i hj hi h1))
/-- Slots in a row lie in one run. -/
theorem canon_span {R : List E} (h : Canon R) (t : Nat) (n : Nat) : (∀ j, j < n + 1 → hasB R (t + j) = true) → ∃ x ∈ R, x.s ≤ (t : Int) ∧ (t : Int) + (n + 1 : Nat) ≤ x.s + x.n := by
  induction n with
  | zero =>
    intro hj
    obtain ⟨x, hx, _, h1, h2⟩ := (hasB_iff _ _).1 (hj 0 (by omega))
    exact ⟨x, hx, by omega, by omega⟩
  | succ n ih =>
    intro hj
    obtain ⟨x, hx, h1, h2⟩ := ih fun j hjn => hj j (by omega)
    obtain ⟨y, hy, _, h3, h4⟩ := (hasB_iff _ _).1 (hj (n + 1) (by omega))
    rcases canon_sep h hx hy with rfl | h5 | h5
    · exact ⟨x, hx, h1, by omega⟩
    · omega
    · omega
/-- The slots from s on are free, n of them. -/
def roomB (M : List Bool) (s n : Nat) : Bool := (List.range n).all fun j => freeF M (s + j)
theorem roomB_iff (M : List Bool) (s n : Nat) : roomB M s n = true ↔ ∀ j, j < n → freeF M (s + j) = true := by
  simp [roomB]
theorem hasB_mem {R : List E} {x : E} (h : Canon R) (hx : x ∈ R) (i : Nat) (h1 : x.s ≤ (i : Int)) (h2 : (i : Int) < x.s + x.n) : hasB R i = true :=
  (hasB_iff _ _).2 ⟨x, hx, (h.1 x hx).2, h1, h2⟩
theorem fit_gen {R : List E} (h : Canon R) (n : Nat) (hn : 1 ≤ n) :
    (fitS R n = none → ∀ t : Nat, ∃ j, j < n ∧ hasB R (t + j) = false) ∧
    (∀ s, fitS R n = some s → ∃ s' : Nat, s = s' ∧ (∀ j, j < n → hasB R (s' + j) = true) ∧ ∀ t : Nat, t < s' → ∃ j, j < n ∧ hasB R (t + j) = false) := by
  have key : ∀ t : Nat, (∀ j, j < n → hasB R (t + j) = true) → ∃ x ∈ R, x.s ≤ (t : Int) ∧ (t : Int) + n ≤ x.s + x.n := fun t ht => by
    obtain ⟨m, rfl⟩ : ∃ m, n = m + 1 := ⟨n - 1, by omega⟩
    exact canon_span h t m ht
  have neg : ∀ t : Nat, ¬ (∀ j, j < n → hasB R (t + j) = true) → ∃ j, j < n ∧ hasB R (t + j) = false := fun t ht => by
    refine Classical.byContradiction fun hc => ht fun j hj => ?_
    rw [← Bool.not_eq_false]
    exact fun hf => hc ⟨j, hj, hf⟩
  constructor
  · intro hf t
    refine neg t fun ht => ?_
    obtain ⟨x, hx, h1, h2⟩ := key t ht
    unfold fitS at hf
    rw [Option.map_eq_none_iff, List.find?_eq_none] at hf
    exact hf x hx (by simp [longB]; omega)
  · intro s hs
    obtain ⟨x, hx, rfl⟩ := Option.map_eq_some_iff.1 hs
    obtain ⟨k, hk, hlk, hkf, hfx⟩ := find_at R (longB n) x hx
    have hxm : x ∈ R := by rw [← hlk]; exact List.getElem_mem hk
    obtain ⟨c1, c2, c3, c4, c5⟩ := (okB_iff _).1 (h.1 x hxm).2
    have hnx : (n : Int) ≤ x.n := of_decide_eq_true hfx
    refine ⟨x.s.toNat, by omega, fun j hj => hasB_mem h hxm _ (by omega) (by omega), fun t ht => neg t fun hc => ?_⟩
    obtain ⟨y, hy, h1, h2⟩ := key t hc
    obtain ⟨j, hj, rfl⟩ := List.getElem_of_mem hy
    have hp := List.pairwise_iff_getElem.1 h.2
    rcases Nat.lt_trichotomy j k with hjk | hjk | hjk
    · have := hkf R[j] (List.mem_take_iff_getElem.2 ⟨j, by omega, rfl⟩)
      simp [longB] at this
      omega
    · subst hjk
      rw [hlk] at h1
      omega
    · have := hp k j hk hj hjk
      rw [hlk] at this
      omega
theorem from_free (M : List Bool) (hN : M.length ≤ 65536) (h : Nat) : Canon (fromL (freeR M) h) ∧ ∀ i, hasB (fromL (freeR M) h) i = (freeF M i && decide (h ≤ i)) := by
  refine ⟨fromL_canon _ _ (freeR_canon M), fun i => ?_⟩
  rw [hasB_from _ _ _ (freeR_canon M), hasB_free M hN]
  congr 1
  rw [Bool.eq_iff_iff]
  simp
theorem before_free (M : List Bool) (hN : M.length ≤ 65536) (h : Nat) : Canon (beforeL (freeR M) h) ∧ ∀ i, hasB (beforeL (freeR M) h) i = (freeF M i && decide (i < h)) := by
  refine ⟨beforeL_canon _ _ (freeR_canon M), fun i => ?_⟩
  rw [hasB_before _ _ _ (freeR_canon M), hasB_free M hN]
  congr 1
  rw [Bool.eq_iff_iff]
  simp
theorem room_not {M : List Bool} {t n j : Nat} (hj : j < n) (h : freeF M (t + j) = false) : roomB M t n = false := by
  rw [Bool.eq_false_iff]
  intro hc
  rw [(roomB_iff _ _ _).1 hc j hj] at h
  cases h
theorem fit_from_none {M : List Bool} (hN : M.length ≤ 65536) {h n : Nat} (hn : 1 ≤ n) (hf : fitS (fromL (freeR M) h) n = none) (t : Nat) (ht : h ≤ t) : roomB M t n = false := by
  obtain ⟨h1, h2⟩ := from_free M hN h
  obtain ⟨j, hj, hb⟩ := (fit_gen h1 n hn).1 hf t
  refine room_not hj ?_
  rw [h2] at hb
  simpa [show h ≤ t + j by omega] using hb
theorem fit_from_some {M : List Bool} (hN : M.length ≤ 65536) {h n : Nat} (hn : 1 ≤ n) {s : Int} (hf : fitS (fromL (freeR M) h) n = some s) :
    ∃ s' : Nat, s = s' ∧ h ≤ s' ∧ roomB M s' n = true ∧ ∀ t, h ≤ t → t < s' → roomB M t n = false := by
  obtain ⟨h1, h2⟩ := from_free M hN h
  obtain ⟨s', e, hall, hno⟩ := (fit_gen h1 n hn).2 s hf
  have h0 := hall 0 (by omega)
  rw [h2, Bool.and_eq_true] at h0
  have h0' := of_decide_eq_true h0.2
  refine ⟨s', e, by omega, (roomB_iff _ _ _).2 fun j hj => ?_, fun t ht hts => ?_⟩
  · have := hall j hj
    rw [h2, Bool.and_eq_true] at this
    exact this.1
  · obtain ⟨j, hj, hb⟩ := hno t hts
    refine room_not hj ?_
    rw [h2] at hb
    simpa [show h ≤ t + j by omega] using hb
theorem fit_none' {M : List Bool} (hN : M.length ≤ 65536) {n : Nat} (hn : 1 ≤ n) (hf : fitS (freeR M) n = none) (t : Nat) : roomB M t n = false := by
  obtain ⟨j, hj, hb⟩ := (fit_gen (freeR_canon M) n hn).1 hf t
  rw [hasB_free M hN] at hb
  exact room_not hj hb
theorem fit_some' {M : List Bool} (hN : M.length ≤ 65536) {n : Nat} (hn : 1 ≤ n) {s : Int} (hf : fitS (freeR M) n = some s) :
    ∃ s' : Nat, s = s' ∧ roomB M s' n = true ∧ ∀ t, t < s' → roomB M t n = false := by
  obtain ⟨s', e, hall, hno⟩ := (fit_gen (freeR_canon M) n hn).2 s hf
  refine ⟨s', e, (roomB_iff _ _ _).2 fun j hj => ?_, fun t hts => ?_⟩
  · have := hall j hj
    rwa [hasB_free M hN] at this
  · obtain ⟨j, hj, hb⟩ := hno t hts
    rw [hasB_free M hN] at hb
    exact room_not hj hb

/-! ### The lowest slots -/
def firstF (f : Nat → Bool) (n : Nat) (i : Nat) : Bool := f i && decide (area f i < n)
theorem firstF_congr (f g : Nat → Bool) (n i : Nat) (h : ∀ j, j ≤ i → f j = g j) : firstF f n i = firstF g n i := by
  unfold firstF
  rw [h i (Nat.le_refl _), area_congr f g i fun j hj => h j (by omega)]
theorem area_first (f : Nat → Bool) (n k : Nat) : area (firstF f n) k = min n (area f k) := by
  induction k with
  | zero => simp [area]
  | succ k ih =>
    simp only [area, ih]
    unfold firstF
    cases hf : f k
    · simp
    · by_cases h : area f k < n
      · simp [h]; omega
      · simp [h]; omega
theorem lowAll_snoc (l : List E) (x : E) (n : Int) : lowAll (l ++ [x]) n = lowStep (lowAll l n) x := by
  simp only [lowAll, List.foldl_append, List.foldl_cons, List.foldl_nil]
theorem canon_snoc_inv {l : List E} {x : E} (h : Canon (l ++ [x])) : Canon l ∧ (x.a = 0 ∧ okB x = true) ∧ ∀ y ∈ l, y.s + y.n < x.s := by
  obtain ⟨h1, h2⟩ := h
  rw [List.pairwise_append] at h2
  exact ⟨⟨fun y hy => h1 y (by simp [hy]), h2.1⟩, h1 x (by simp), fun y hy => h2.2.2 y hy x (by simp)⟩
theorem canon_snoc {l : List E} {x : E} (h : Canon l) (h1 : x.a = 0) (h2 : okB x = true) (h3 : ∀ y ∈ l, y.s + y.n < x.s) : Canon (l ++ [x]) :=
  canon_append h ⟨by intro y hy; simp at hy; subst hy; exact ⟨h1, h2⟩, by simp⟩ fun y hy z hz => by simp at hz; subst hz; exact h3 y hy
theorem lenL_nonneg {l : List E} (h : Canon l) : 0 ≤ lenL l := by rw [lenL_canon l h]; omega
theorem low_is (l : List E) (n : Nat) : Canon l → Canon (lowAll l n).1 ∧ (∀ y ∈ (lowAll l n).1, ∃ z ∈ l, y.s + y.n ≤ z.s + z.n) ∧ (∀ i, hasB (lowAll l n).1 i = firstF (hasB l) n i) ∧ (lowAll l n).2 = n - min (n : Int) (lenL l) := by
  refine snoc_ind (P := fun l => Canon l → Canon (lowAll l n).1 ∧ (∀ y ∈ (lowAll l n).1, ∃ z ∈ l, y.s + y.n ≤ z.s + z.n) ∧ (∀ i, hasB (lowAll l n).1 i = firstF (hasB l) n i) ∧ (lowAll l n).2 = n - min (n : Int) (lenL l)) (fun _ => ?_) (fun l x ih h => ?_) l
  · refine ⟨canon_nil, by simp [lowAll], fun i => by simp [lowAll, hasB, firstF], ?_⟩
    simp [lowAll, lenL]
    omega
  · obtain ⟨hl, ⟨hx0, hx⟩, hbe⟩ := canon_snoc_inv h
    obtain ⟨c1, c2, c3, c4, c5⟩ := (okB_iff _).1 hx
    obtain ⟨i1, i2, i3, i4⟩ := ih hl
    have hl0 := lenL_nonneg hl
    rw [lowAll_snoc]
    generalize lowAll l n = st at *
    obtain ⟨A, m⟩ := st
    simp only at i1 i2 i3 i4
    have hlen : lenL (l ++ [x]) = lenL l + x.n := by rw [lenL_append, lenL_one]
    have hAe : ∀ y ∈ A, y.s + y.n < x.s := fun y hy => by
      obtain ⟨z, hz, hz2⟩ := i2 y hy
      have := hbe z hz
      omega
    have hfar : ∀ i : Nat, x.s ≤ (i : Int) → hasB l i = false := fun i hi => by
      rw [Bool.eq_false_iff]
      intro hc
      obtain ⟨y, hy, _, h1, h2⟩ := (hasB_iff _ _).1 hc
      have := hbe y hy
      omega
    have hal : ∀ i : Nat, x.s ≤ (i : Int) → (area (hasB l) i : Int) = lenL l := fun i hi => by
      rw [lenL_canon l hl]
      rcases Nat.le_total i 65536 with h1 | h1
      · rw [area_cut _ i 65536 h1 fun j hj _ => hfar j (by omega)]
      · rw [area_cut _ 65536 i h1 fun j hj _ => hfar j (by omega)]
    have hax : ∀ i : Nat, (i : Int) ≤ x.s → area (hasB (l ++ [x])) i = area (hasB l) i := fun i hi => area_congr _ _ _ fun j hj => by
      rw [hasB_append, hasB_one x hx]
      have : inX x j = false := by
        rw [Bool.eq_false_iff]; intro hc; have := (inX_iff _ _).1 hc; omega
      rw [this, Bool.or_false]
    have hain : ∀ i : Nat, x.s ≤ (i : Int) → (i : Int) < x.s + x.n → (area (hasB (l ++ [x])) i : Int) = lenL l + (i - x.s) := fun i h1 h2 => by
      have e1 : area (hasB (l ++ [x])) i = area (fun j => hasB l j || inX x j) i := area_congr _ _ _ fun j _ => by rw [hasB_append, hasB_one x hx]
      have e2 := area_or (hasB l) (inX x) i fun j _ ha hb => by
        have := (inX_iff _ _).1 hb
        rw [hfar j this.1] at ha; cases ha
      have e3 : area (inX x) i = min (x.s + x.n).toNat i - min x.s.toNat i := by
        rw [← area_span _ _ _ (by omega)]
        exact area_congr _ _ _ fun j _ => by
          rw [Bool.eq_iff_iff, inX_iff]
          simp only [Bool.and_eq_true, decide_eq_true_eq]
          omega
      have e4 := hal i h1
      rw [e1, e2, e3]
      omega
    have hmain : ∀ i, firstF (hasB (l ++ [x])) n i = (firstF (hasB l) n i || (inX x i && decide ((i : Int) < x.s + m))) := fun i => by
      unfold firstF
      rw [hasB_append, hasB_one x hx]
      by_cases h1 : (i : Int) < x.s
      · have e : inX x i = false := by rw [Bool.eq_false_iff]; intro hc; have := (inX_iff _ _).1 hc; omega
        rw [e, hax i (by omega)]
        simp
      · rw [hfar i (by omega)]
        by_cases h2 : (i : Int) < x.s + x.n
        · have e := hain i (by omega) h2
          have e1 : inX x i = true := (inX_iff _ _).2 ⟨by omega, h2⟩
          rw [e1]
          simp only [Bool.false_or, Bool.true_and, Bool.false_and]
          rw [Bool.eq_iff_iff]
          simp only [decide_eq_true_eq]
          omega
        · have e1 : inX x i = false := by rw [Bool.eq_false_iff]; intro hc; have := (inX_iff _ _).1 hc; omega
          rw [e1]
          simp
    simp only [lowStep]
    by_cases hk : 0 < min m x.n
    · rw [if_pos hk]
      have hok : okB (⟨0, min m x.n, x.s⟩ : E) = true := (okB_iff _).2 ⟨by simp only; omega, by simp, by simp only; omega, by simp only; omega, by simp only; omega⟩
      refine ⟨canon_snoc i1 rfl hok fun y hy => hAe y hy, fun y hy => ?_, fun i => ?_, by rw [hlen]; omega⟩
      · rcases List.mem_append.1 hy with h1 | h1
        · obtain ⟨z, hz, hz2⟩ := i2 y h1
          exact ⟨z, by simp [hz], hz2⟩
        · simp at h1
          subst h1
          exact ⟨x, by simp, by simp only; omega⟩
      · rw [hasB_append, hasB_one _ hok, i3, hmain]
        congr 1
        rw [Bool.eq_iff_iff]
        simp only [Bool.and_eq_true, decide_eq_true_eq, inX_iff]
        omega
    · rw [if_neg hk]
      refine ⟨i1, fun y hy => ?_, fun i => ?_, by rw [hlen]; omega⟩
      · obtain ⟨z, hz, hz2⟩ := i2 y hy
        exact ⟨z, by simp [hz], hz2⟩
      · rw [i3, hmain]
        have : (inX x i && decide ((i : Int) < x.s + m)) = false := by
          rw [Bool.eq_false_iff]
          simp only [ne_eq, Bool.and_eq_true, decide_eq_true_eq, inX_iff]
          omega
        rw [this, Bool.or_false]
theorem lenL_low (l : List E) (n : Nat) (h : Canon l) : lenL (lowAll l n).1 = min (n : Int) (lenL l) := by
  obtain ⟨h1, _, h3, _⟩ := low_is l n h
  rw [lenL_canon _ h1, lenL_canon _ h, area_congr _ _ _ fun i _ => h3 i, area_first]
  omega

/-! ### The reference's way: the free slots of a part, one by one -/
/-- The free slots from a slot on. -/
def fromF (M : List Bool) (h : Nat) (i : Nat) : Bool := freeF M i && decide (h ≤ i)
theorem picks_area (f : Nat → Bool) (k : Nat) : (picks f k).length = area f k := by
  induction k with
  | zero => rfl
  | succ k ih =>
    cases hf : f k
    · rw [picks_no f k hf, ih]; simp [area, hf]
    · rw [picks_yes f k hf, List.length_append, ih]; simp [area, hf]
/-- What 'some' returns. -/
def someL (M : List Bool) (a b n : Nat) : List E := runsL (picks (firstF (fromF M a) n) b)
theorem some_start (M : List Bool) (a n : Nat) : picks (firstF (fromF M a) n) a = [] := by
  apply List.eq_nil_of_length_eq_zero
  rw [picks_area]
  exact area_false _ _ fun i hi => by unfold firstF fromF; simp; omega
theorem some_len (M : List Bool) (a s n : Nat) : (picks (firstF (fromF M a) n) s).length = min n (area (fromF M a) s) := by rw [picks_area, area_first]
theorem some_yes (M : List Bool) (a s n : Nat) (ha : a ≤ s) (h : (picks (firstF (fromF M a) n) s).length < n) (hf : freeF M s = true) : picks (firstF (fromF M a) n) (s + 1) = picks (firstF (fromF M a) n) s ++ [single s] := by
  rw [some_len] at h
  refine picks_yes _ _ ?_
  unfold firstF
  rw [show fromF M a s = true by unfold fromF; rw [hf]; simp [ha]]
  simp
  omega
theorem some_no (M : List Bool) (a s n : Nat) (hf : freeF M s = false) : picks (firstF (fromF M a) n) (s + 1) = picks (firstF (fromF M a) n) s := by
  refine picks_no _ _ ?_
  unfold firstF fromF
  rw [hf]; simp
theorem some_full (M : List Bool) (a s b n : Nat) (hs : s ≤ b) (h : n ≤ (picks (firstF (fromF M a) n) s).length) : picks (firstF (fromF M a) n) b = picks (firstF (fromF M a) n) s := by
  rw [some_len] at h
  obtain ⟨d, rfl⟩ : ∃ d, b = s + d := ⟨b - s, by omega⟩
  clear hs
  induction d with
  | zero => rfl
  | succ d ih =>
    rw [← ih, ← Nat.add_assoc]
    refine picks_no _ _ ?_
    have hm : area (fromF M a) s ≤ area (fromF M a) (s + d) := by
      clear ih
      induction d with
      | zero => exact Nat.le_refl _
      | succ d ih => rw [← Nat.add_assoc]; simp only [area]; omega
    unfold firstF
    simp
    intro _
    omega
theorem hasB_some (M : List Bool) (a b n : Nat) (hb : b ≤ 65536) (i : Nat) : hasB (someL M a b n) i = (decide (i < b) && firstF (fromF M a) n i) := by
  unfold someL
  rw [hasB_runs, hasB_picks _ _ hb]
theorem lenL_some (M : List Bool) (a b n : Nat) (hb : b ≤ 65536) : lenL (someL M a b n) = min n (area (fromF M a) b) := by
  unfold someL
  rw [lenL_picks _ _ hb, area_first]
theorem some_from (M : List Bool) (hN : M.length ≤ 65536) (h n : Nat) : someL M h M.length n = (lowAll (fromL (freeR M) h) n).1 := by
  obtain ⟨h1, h2⟩ := from_free M hN h
  obtain ⟨l1, _, l3, _⟩ := low_is _ n h1
  refine runs_ext (runs_facts _).1 l1 fun i _ => ?_
  rw [hasB_some _ _ _ _ hN, l3, firstF_congr (hasB (fromL (freeR M) h)) (fromF M h) n i fun j _ => h2 j]
  by_cases hi : i < M.length
  · simp [hi]
  · unfold firstF fromF
    rw [freeF_far M i (by omega)]
    simp
theorem some_before (M : List Bool) (hN : M.length ≤ 65536) (h n : Nat) (hh : h ≤ M.length) : someL M 0 h n = (lowAll (beforeL (freeR M) h) n).1 := by
  obtain ⟨h1, h2⟩ := before_free M hN h
  obtain ⟨l1, _, l3, _⟩ := low_is _ n h1
  refine runs_ext (runs_facts _).1 l1 fun i _ => ?_
  rw [hasB_some _ _ _ _ (by omega), l3]
  by_cases hi : i < h
  · rw [firstF_congr (hasB (beforeL (freeR M) h)) (fromF M 0) n i fun j hj => by rw [h2]; unfold fromF; simp; intro _; omega]
    simp [hi]
  · unfold firstF
    rw [h2]
    simp [hi]
theorem some_all (M : List Bool) : someL M 0 M.length M.length = freeR M := by
  unfold someL freeR
  rw [picks_congr _ (freeF M) M.length fun i hi => ?_]
  unfold firstF fromF
  have : area (fun i => freeF M i && decide (0 ≤ i)) i < M.length := Nat.lt_of_le_of_lt (area_le _ _) hi
  simp only [Nat.zero_le, decide_true, Bool.and_true] at this ⊢
  rw [decide_eq_true this, Bool.and_true]

/-! ### What Take chooses -/
def piecesL (M : List Bool) (n h : Nat) : List E := (lowAll (fromL (freeR M) h) n).1 ++ (lowAll (beforeL (freeR M) h) (n - min (n : Int) (lenL (fromL (freeR M) h)))).1
def takeL (M : List Bool) (n h : Nat) : List E :=
  if n = 0 then [] else
  match fitS (fromL (freeR M) h) n with
  | some s => [⟨0, n, s⟩]
  | none => match fitS (freeR M) n with
    | some s => [⟨0, n, s⟩]
    | none => piecesL M n h
theorem takeL_zero (M : List Bool) (h : Nat) : takeL M 0 h = [] := rfl
theorem takeL_behind (M : List Bool) (n h : Nat) (s : Int) (hn : 1 ≤ n) (hf : fitS (fromL (freeR M) h) n = some s) : takeL M n h = [⟨0, n, s⟩] := by
  unfold takeL
  rw [if_neg (by omega), hf]
theorem takeL_any (M : List Bool) (n h : Nat) (s : Int) (hn : 1 ≤ n) (hf : fitS (fromL (freeR M) h) n = none) (hg : fitS (freeR M) n = some s) : takeL M n h = [⟨0, n, s⟩] := by
  unfold takeL
  rw [if_neg (by omega), hf]
  simp only [hg]
theorem takeL_pieces (M : List Bool) (n h : Nat) (hn : 1 ≤ n) (hf : fitS (fromL (freeR M) h) n = none) (hg : fitS (freeR M) n = none) : takeL M n h = piecesL M n h := by
  unfold takeL
  rw [if_neg (by omega), hf]
  simp only [hg]
theorem lenL_from (M : List Bool) (hN : M.length ≤ 65536) (h : Nat) : lenL (fromL (freeR M) h) = area (fromF M h) M.length := by
  obtain ⟨h1, h2⟩ := from_free M hN h
  rw [lenL_canon _ h1, area_congr _ _ _ fun i _ => h2 i, area_cut _ _ _ hN fun i hi _ => by rw [freeF_far M i hi]; rfl]
  rfl
theorem lenL_before (M : List Bool) (hN : M.length ≤ 65536) (h : Nat) : lenL (beforeL (freeR M) h) = area (fun i => freeF M i && !decide (h ≤ i)) M.length := by
  obtain ⟨h1, h2⟩ := before_free M hN h
  rw [lenL_canon _ h1, area_congr _ _ _ fun i _ => h2 i, area_cut _ _ _ hN fun i hi _ => by rw [freeF_far M i hi]; rfl]
  congr 1
  apply area_congr
  intro i _
  congr 1
  rw [Bool.eq_iff_iff]
  simp
theorem pieces_rest (M : List Bool) (hN : M.length ≤ 65536) (n h : Nat) : (n : Int) - min (n : Int) (lenL (fromL (freeR M) h)) = ((n - min n (area (fromF M h) M.length) : Nat) : Int) := by
  rw [lenL_from M hN]
  omega
theorem pieces_ref (M : List Bool) (hN : M.length ≤ 65536) (n h : Nat) (hh : h ≤ M.length) : piecesL M n h = someL M h M.length n ++ someL M 0 h (n - min n (area (fromF M h) M.length)) := by
  unfold piecesL
  rw [pieces_rest M hN, some_from M hN, some_before M hN _ _ hh]
/-- What is taken: permitted, free, so many. -/
structure Taken (M : List Bool) (n : Nat) (l : List E) : Prop where
  perm : permB M.length l = true
  range : rangeB M.length l = true
  free : ∀ i, listF l i = true → freeF M i = true
  len : lenL l = n
theorem Taken.st {M : List Bool} {n : Nat} {l : List E} (h : Taken M n l) : stN M l true = 0 := by
  unfold stN
  rw [area_zero_iff]
  intro i hi
  cases hl : listF l i
  · rfl
  · have := h.free i hl
    rw [freeF_in M i hi] at this
    simp at this
    rw [List.getD_eq_getElem?_getD, this]
    rfl
theorem gap_one (N : Nat) (x : E) (h : 1 ≤ x.n ∧ 0 ≤ x.s ∧ x.s + x.n ≤ N) : gapN N [x] = 0 := by
  have := gap_snoc N [] x h
  rw [List.nil_append, gap_nil] at this
  rw [this, show clashN N [] x = 0 from area_false _ _ fun i _ => rfl]
  rfl
theorem taken_one {M : List Bool} (hN : M.length ≤ 65536) {s n : Nat} (hn : 1 ≤ n) (h : roomB M s n = true) : Taken M n [⟨0, n, s⟩] := by
  have hr := (roomB_iff _ _ _).1 h
  have hle : s + n ≤ M.length := by
    have := freeF_lt (hr (n - 1) (by omega))
    omega
  have hp : permB M.length [(⟨0, n, s⟩ : E)] = true := (permB_iff _ _).2 fun x hx => by simp at hx; subst hx; simp only; omega
  refine ⟨hp, range_yes hN hp (gap_one _ _ (by simp only; omega)), fun i hi => ?_, by simp [lenL]⟩
  rw [listF_one] at hi
  have := (inX_iff _ _).1 hi
  simp only at this
  have h2 := hr (i - s) (by omega)
  rwa [show s + (i - s) = i by omega] at h2
theorem canon_lt {M : List Bool} {R : List E} (h : Canon R) (hf : ∀ i, hasB R i = true → freeF M i = true) : permB M.length R = true := by
  refine (permB_iff _ _).2 fun x hx => ?_
  obtain ⟨c1, c2, c3, c4, c5⟩ := (okB_iff _).1 (h.1 x hx).2
  have := freeF_lt (hf (x.s + x.n - 1).toNat (hasB_mem h hx _ (by omega) (by omega)))
  omega
theorem listF_canon {R : List E} (h : Canon R) (i : Nat) : listF R i = hasB R i := by
  rw [Bool.eq_iff_iff, listF_iff, hasB_iff]
  constructor
  · rintro ⟨x, hx, h1, h2⟩; exact ⟨x, hx, (h.1 x hx).2, h1, h2⟩
  · rintro ⟨x, hx, _, h1, h2⟩; exact ⟨x, hx, h1, h2⟩
theorem taken_pieces {M : List Bool} (hN : M.length ≤ 65536) {n h : Nat} (hfree : n ≤ area (freeF M) M.length) : Taken M n (piecesL M n h) := by
  obtain ⟨f1, f2⟩ := from_free M hN h
  obtain ⟨b1, b2⟩ := before_free M hN h
  have hle := lenL_low _ n f1
  unfold piecesL
  rw [pieces_rest M hN]
  have hle2 := lenL_low _ (n - min n (area (fromF M h) M.length)) b1
  obtain ⟨c1, _, c3, _⟩ := low_is _ n f1
  obtain ⟨d1, _, d3, _⟩ := low_is _ (n - min n (area (fromF M h) M.length)) b1
  have ef := lenL_from M hN h
  have eb := lenL_before M hN h
  have es := area_split (freeF M) (fun i => decide (h ≤ i)) M.length
  have es' : area (fun i => freeF M i && decide (h ≤ i)) M.length = area (fromF M h) M.length := rfl
  generalize (lowAll (fromL (freeR M) h) n).1 = A at *
  generalize hB : (lowAll (beforeL (freeR M) h) ((n - min n (area (fromF M h) M.length) : Nat) : Int)).1 = B at *
  have hA : ∀ i, hasB A i = true → freeF M i = true ∧ h ≤ i := fun i hi => by
    rw [c3] at hi
    unfold firstF at hi
    rw [Bool.and_eq_true, f2, Bool.and_eq_true] at hi
    exact ⟨hi.1.1, of_decide_eq_true hi.1.2⟩
  have hBf : ∀ i, hasB B i = true → freeF M i = true ∧ i < h := fun i hi => by
    rw [d3] at hi
    unfold firstF at hi
    rw [Bool.and_eq_true, b2, Bool.and_eq_true] at hi
    exact ⟨hi.1.1, of_decide_eq_true hi.1.2⟩
  have pA := canon_lt c1 fun i hi => (hA i hi).1
  have pB := canon_lt d1 fun i hi => (hBf i hi).1
  have hp : permB M.length (A ++ B) = true := by
    rw [permB_iff]
    intro x hx
    rcases List.mem_append.1 hx with h1 | h1
    · exact (permB_iff _ _).1 pA x h1
    · exact (permB_iff _ _).1 pB x h1
  have hlen : lenL (A ++ B) = n := by rw [lenL_append, hle, hle2]; omega
  have hF : ∀ i, listF (A ++ B) i = (hasB A i || hasB B i) := fun i => by rw [listF_append, listF_canon c1, listF_canon d1]
  refine ⟨hp, range_yes hN hp ?_, fun i hi => ?_, hlen⟩
  · unfold gapN
    have e1 : area (listF (A ++ B)) M.length = area (hasB A) M.length + area (hasB B) M.length := by
      rw [area_congr _ _ _ fun i _ => hF i]
      exact area_or _ _ _ fun i _ h1 h2 => by have := (hA i h1).2; have := (hBf i h2).2; omega
    have e2 : lenL A = area (hasB A) M.length := by
      rw [lenL_canon _ c1, area_cut _ _ _ hN fun i hi _ => ?_]
      rw [Bool.eq_false_iff]; intro hc; have := freeF_lt (hA i hc).1; omega
    have e3 : lenL B = area (hasB B) M.length := by
      rw [lenL_canon _ d1, area_cut _ _ _ hN fun i hi _ => ?_]
      rw [Bool.eq_false_iff]; intro hc; have := freeF_lt (hBf i hc).1; omega
    rw [lenL_append, e1, e2, e3]
    omega
  · rw [hF, Bool.or_eq_true] at hi
    rcases hi with h1 | h1
    · exact (hA i h1).1
    · exact (hBf i h1).1
theorem taken_is {M : List Bool} (hN : M.length ≤ 65536) {n h : Nat} (hfree : n ≤ area (freeF M) M.length) : Taken M n (takeL M n h) := by
  by_cases h0 : n = 0
  · subst h0
    refine ⟨rfl, range_yes hN rfl (gap_nil _), (fun i hi => by cases hi), rfl⟩
  · cases hf : fitS (fromL (freeR M) h) n with
    | some s =>
      rw [takeL_behind M n h s (by omega) hf]
      obtain ⟨s', rfl, _, hr, _⟩ := fit_from_some hN (by omega) hf
      exact taken_one hN (by omega) hr
    | none =>
      cases hg : fitS (freeR M) n with
      | some s =>
        rw [takeL_any M n h s (by omega) hf hg]
        obtain ⟨s', rfl, hr, _⟩ := fit_some' hN (by omega) hg
        exact taken_one hN (by omega) hr
      | none =>
        rw [takeL_pieces M n h (by omega) hf hg]
        exact taken_pieces hN hfree
theorem take_behind {M : List Bool} (hN : M.length ≤ 65536) {n h p : Nat} (hn : 1 ≤ n) (hp : h ≤ p) (hr : roomB M p n = true) (hno : ∀ t, h ≤ t → t < p → roomB M t n = false) : takeL M n h = [⟨0, n, p⟩] := by
  cases hf : fitS (fromL (freeR M) h) n with
  | none => have := fit_from_none hN hn hf p hp; rw [hr] at this; cases this
  | some s =>
    rw [takeL_behind M n h s hn hf]
    obtain ⟨s', rfl, h1, h2, h3⟩ := fit_from_some hN hn hf
    have : s' = p := by
      rcases Nat.lt_trichotomy s' p with h4 | h4 | h4
      · have := hno s' h1 h4; rw [h2] at this; cases this
      · exact h4
      · have := h3 p hp h4; rw [hr] at this; cases this
    rw [this]
theorem room_far {M : List Bool} {t n : Nat} (hn : 1 ≤ n) (h : M.length ≤ t) : roomB M t n = false := room_not (j := 0) (by omega) (freeF_far M _ (by omega))
theorem behind_none {M : List Bool} (hN : M.length ≤ 65536) {n h : Nat} (hn : 1 ≤ n) (hno : ∀ t, h ≤ t → t < M.length → roomB M t n = false) : fitS (fromL (freeR M) h) n = none := by
  cases hf : fitS (fromL (freeR M) h) n with
  | none => rfl
  | some s =>
    obtain ⟨s', rfl, h1, h2, h3⟩ := fit_from_some hN hn hf
    rcases Nat.lt_or_ge s' M.length with h4 | h4
    · have := hno s' h1 h4; rw [h2] at this; cases this
    · have := room_far hn h4; rw [h2] at this; cases this
theorem take_any {M : List Bool} (hN : M.length ≤ 65536) {n h p : Nat} (hn : 1 ≤ n) (hf : fitS (fromL (freeR M) h) n = none) (hr : roomB M p n = true) (hno : ∀ t, t < p → roomB M t n = false) : takeL M n h = [⟨0, n, p⟩] := by
  cases hg : fitS (freeR M) n with
  | none => have := fit_none' hN hn hg p; rw [hr] at this; cases this
  | some s =>
    rw [takeL_any M n h s hn hf hg]
    obtain ⟨s', rfl, h2, h3⟩ := fit_some' hN hn hg
    have : s' = p := by
      rcases Nat.lt_trichotomy s' p with h4 | h4 | h4
      · have := hno s' h4; rw [h2] at this; cases this
      · exact h4
      · have := h3 p h4; rw [hr] at this; cases this
    rw [this]
theorem any_none {M : List Bool} (hN : M.length ≤ 65536) {n : Nat} (hn : 1 ≤ n) (hno : ∀ t, t < M.length → roomB M t n = false) : fitS (freeR M) n = none := by
  cases hf : fitS (freeR M) n with
  | none => rfl
  | some s =>
    obtain ⟨s', rfl, h2, h3⟩ := fit_some' hN hn hf
    rcases Nat.lt_or_ge s' M.length with h4 | h4
    · have := hno s' h4; rw [h2] at this; cases this
    · have := room_far hn h4; rw [h2] at this; cases this
theorem takeL_end {M : List Bool} (hN : M.length ≤ 65536) {n h : Nat} (hn : 1 ≤ n) (hh : h ≤ M.length) (hf : fitS (fromL (freeR M) h) n = none) (hno : ∀ t, t < M.length → roomB M t n = false) :
    takeL M n h = someL M h M.length n ++ someL M 0 h (n - min n (area (fromF M h) M.length)) := by
  rw [takeL_pieces M n h hn hf (any_none hN hn hno), pieces_ref M hN n h hh]
end Go.Proofs.Ytolhajkbamhdgaa
