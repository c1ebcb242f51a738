/-
  Plain laws on counts of slots: what Add and Drop make of them, and the runs of single slots.
  Conditions: as each theorem says.
-/
import Derived.Test.YtolhajkbamhdgaaRuP
namespace Go.Proofs.Ytolhajkbamhdgaa
set_option linter.unusedSimpArgs false
set_option linter.unusedVariables false

/-- The list is permitted on N slots. -/
def permB (N : Nat) (l : List E) : Bool := l.all fun x => decide (1 ≤ x.n ∧ 0 ≤ x.s ∧ x.s + x.n ≤ N)
theorem permB_iff (N : Nat) (l : List E) : permB N l = true ↔ ∀ x ∈ l, 1 ≤ x.n ∧ 0 ≤ x.s ∧ x.s + x.n ≤ N := by simp [permB]
theorem permB_nil (N : Nat) : permB N [] = true := rfl
theorem permB_snoc (N : Nat) (l : List E) (x : E) : permB N (l ++ [x]) = (permB N l && decide (1 ≤ x.n ∧ 0 ≤ x.s ∧ x.s + x.n ≤ N)) := by simp [permB]
theorem permB_take (N : Nat) (l : List E) (k : Nat) (h : k < l.length) : permB N (l.take (k + 1)) = (permB N (l.take k) && decide (1 ≤ l[k].n ∧ 0 ≤ l[k].s ∧ l[k].s + l[k].n ≤ N)) := by
  rw [List.take_succ_eq_append_getElem h, permB_snoc]
theorem permB_short (N : Nat) (l : List E) (k : Nat) (h : permB N (l.take k) = false) : permB N l = false := by
  cases hl : permB N l
  · rfl
  · have : permB N (l.take k) = true := (permB_iff N _).2 fun x hx => (permB_iff N l).1 hl x (List.mem_of_mem_take hx)
    rw [h] at this
    cases this

/-- k counts from s on, each changed by d. -/
def addR (C : List Int) (s : Nat) (d : Int) : Nat → List Int
  | 0 => C
  | k + 1 => (addR C s d k).set (s + k) ((addR C s d k).getD (s + k) 0 + d)
theorem addR_length (C : List Int) (s : Nat) (d : Int) (k : Nat) : (addR C s d k).length = C.length := by
  induction k with
  | zero => rfl
  | succ k ih => simp [addR, ih]
theorem addR_get (C : List Int) (s : Nat) (d : Int) (k : Nat) (i : Nat) (hi : i < C.length) : (addR C s d k).getD i 0 = C.getD i 0 + if s ≤ i ∧ i < s + k then d else 0 := by
  induction k with
  | zero => simp [addR]; omega
  | succ k ih =>
    simp only [addR]
    by_cases he : s + k = i
    · subst he
      rw [List.getD_eq_getElem?_getD, List.getElem?_set_self (by rw [addR_length]; omega)]
      simp only [Option.getD_some]
      rw [ih, if_neg (by omega), if_pos (by omega)]
      omega
    · rw [List.getD_eq_getElem?_getD, List.getElem?_set_ne he, ← List.getD_eq_getElem?_getD, ih]
      by_cases h1 : s ≤ i ∧ i < s + k
      · rw [if_pos h1, if_pos (by omega)]
      · rw [if_neg h1, if_neg (by omega)]
/-- The counts changed by d for each listed slot. -/
def chgL (C : List Int) (l : List E) (d : Int) : List Int := l.foldl (fun C x => addR C x.s.toNat d x.n.toNat) C
theorem chgL_nil (C : List Int) (d : Int) : chgL C [] d = C := rfl
theorem chgL_take (C : List Int) (l : List E) (d : Int) (k : Nat) (h : k < l.length) : chgL C (l.take (k + 1)) d = addR (chgL C (l.take k) d) l[k].s.toNat d l[k].n.toNat := by
  rw [List.take_succ_eq_append_getElem h]; simp only [chgL, List.foldl_append, List.foldl_cons, List.foldl_nil]
theorem chgL_length (C : List Int) (l : List E) (d : Int) : (chgL C l d).length = C.length := by
  unfold chgL
  induction l generalizing C with
  | nil => rfl
  | cons x r ih => rw [List.foldl_cons, ih, addR_length]
/-- How often a slot is listed. -/
def cnt (l : List E) (i : Nat) : Int := match l with
  | [] => 0
  | x :: r => (if x.s ≤ (i : Int) ∧ (i : Int) < x.s + x.n then 1 else 0) + cnt r i
theorem cnt_bound (l : List E) (i : Nat) : 0 ≤ cnt l i ∧ cnt l i ≤ l.length := by
  induction l with
  | nil => simp [cnt]
  | cons x r ih =>
    simp only [cnt, List.length_cons]
    split <;> omega
theorem cnt_pos (l : List E) (i : Nat) : 0 < cnt l i ↔ ∃ x ∈ l, x.s ≤ (i : Int) ∧ (i : Int) < x.s + x.n := by
  induction l with
  | nil => simp [cnt]
  | cons x r ih =>
    have hb := (cnt_bound r i).1
    simp only [cnt, List.mem_cons, exists_eq_or_imp]
    rw [← ih]
    split
    · rename_i h; exact ⟨fun _ => .inl h, fun _ => by omega⟩
    · rename_i h; exact ⟨fun h' => .inr (by omega), fun h' => by rcases h' with h' | h'; exact absurd h' h; omega⟩
theorem chgL_get (l : List E) (d : Int) : ∀ (C : List Int), permB C.length l = true → ∀ i, i < C.length → (chgL C l d).getD i 0 = C.getD i 0 + d * cnt l i := by
  induction l with
  | nil => intro C _ i _; simp [chgL, cnt]
  | cons x r ih =>
    intro C hp i hi
    have hp' := (permB_iff _ _).1 hp
    obtain ⟨h1, h2, h3⟩ := hp' x (by simp)
    have hr : permB (addR C x.s.toNat d x.n.toNat).length r = true := by
      rw [addR_length]
      exact (permB_iff _ _).2 fun y hy => hp' y (by simp [hy])
    have := ih (addR C x.s.toNat d x.n.toNat) hr i (by rw [addR_length]; exact hi)
    simp only [chgL, List.foldl_cons] at this ⊢
    rw [this, addR_get _ _ _ _ _ hi]
    simp only [cnt]
    rw [Int.mul_add, ← Int.add_assoc]
    congr 1
    congr 1
    by_cases hc : x.s.toNat ≤ i ∧ i < x.s.toNat + x.n.toNat
    · rw [if_pos hc, if_pos (by omega)]; omega
    · rw [if_neg hc, if_neg (by omega)]; omega

/-- Counts are told by their values. -/
theorem counts_ext {A B : List Int} (hl : A.length = B.length) (h : ∀ i, i < A.length → A.getD i 0 = B.getD i 0) : A = B := by
  apply List.ext_getElem hl
  intro i h1 h2
  have := h i h1
  simpa [List.getD_eq_getElem?_getD, List.getElem?_eq_getElem h1, List.getElem?_eq_getElem h2] using this
/-- All counts lie in a range. -/
def inR (lo hi : Int) (C : List Int) : Prop := ∀ x ∈ C, lo ≤ x ∧ x ≤ hi
theorem inR_get {lo hi : Int} {C : List Int} : inR lo hi C ↔ ∀ i, i < C.length → lo ≤ C.getD i 0 ∧ C.getD i 0 ≤ hi := by
  constructor
  · intro h i hi
    rw [List.getD_eq_getElem?_getD, List.getElem?_eq_getElem hi]
    exact h _ (List.getElem_mem hi)
  · intro h x hx
    obtain ⟨i, hi, rfl⟩ := List.mem_iff_getElem.1 hx
    have := h i hi
    rwa [List.getD_eq_getElem?_getD, List.getElem?_eq_getElem hi] at this
theorem inR_mono {lo hi lo' hi' : Int} {C : List Int} (h : inR lo hi C) (h1 : lo' ≤ lo) (h2 : hi ≤ hi') : inR lo' hi' C := fun x hx => ⟨by have := (h x hx).1; omega, by have := (h x hx).2; omega⟩
theorem inR_zero (n : Nat) : inR 0 0 (List.replicate n 0) := fun x hx => by
  obtain ⟨_, rfl⟩ := List.mem_replicate.1 hx
  simp
theorem addR_range (C : List Int) (s : Nat) (d : Int) (k : Nat) (lo hi : Int) (h : inR lo hi C) : inR (lo - 1) (hi + 1) (addR C s d k) ∨ (d < -1 ∨ 1 < d) := by
  by_cases hd : -1 ≤ d ∧ d ≤ 1
  · refine .inl (inR_get.2 fun i hi => ?_)
    rw [addR_length] at hi
    rw [addR_get _ _ _ _ _ hi]
    have := inR_get.1 h i hi
    split <;> omega
  · exact .inr (by omega)
theorem chgL_range (l : List E) (d : Int) (hd : -1 ≤ d ∧ d ≤ 1) : ∀ (C : List Int) (lo hi : Int), inR lo hi C → inR (lo - l.length) (hi + l.length) (chgL C l d) := by
  induction l with
  | nil => intro C lo hi h; simpa [chgL] using h
  | cons x r ih =>
    intro C lo hi h
    have h1 := (addR_range C x.s.toNat d x.n.toNat lo hi h).resolve_right (by omega)
    have := ih _ _ _ h1
    simp only [chgL, List.foldl_cons, List.length_cons] at this ⊢
    exact inR_mono this (by push_cast; omega) (by push_cast; omega)

/-! ### Sums -/
def sumC (C : List Int) : Int := C.sum
def usedC (C : List Int) : Int := (C.map fun x => min x 1).sum
theorem sumC_take (C : List Int) (k : Nat) (h : k < C.length) : sumC (C.take (k + 1)) = sumC (C.take k) + C[k] := by
  rw [List.take_succ_eq_append_getElem h]; simp only [sumC, List.sum_append, List.sum_cons, List.sum_nil, Int.add_zero]
theorem usedC_take (C : List Int) (k : Nat) (h : k < C.length) : usedC (C.take (k + 1)) = usedC (C.take k) + min C[k] 1 := by
  rw [List.take_succ_eq_append_getElem h]; simp only [usedC, List.map_append, List.map_cons, List.map_nil, List.sum_append, List.sum_cons, List.sum_nil, Int.add_zero]
theorem sum_bound (C : List Int) (lo hi : Int) (h : inR lo hi C) : lo * C.length ≤ C.sum ∧ C.sum ≤ hi * C.length := by
  induction C with
  | nil => simp
  | cons x r ih =>
    have h1 := h x (by simp)
    have h2 := ih fun y hy => h y (by simp [hy])
    simp only [List.sum_cons, List.length_cons]
    rw [show ((r.length + 1 : Nat) : Int) = r.length + 1 by omega, Int.mul_add, Int.mul_add]
    omega
theorem take_range {lo hi : Int} {C : List Int} (h : inR lo hi C) (k : Nat) : inR lo hi (C.take k) := fun x hx => h x (List.mem_of_mem_take hx)
theorem used_range {hi : Int} {C : List Int} (h : inR 0 hi C) : inR 0 1 (C.map fun x => min x 1) := fun y hy => by
  obtain ⟨x, hx, rfl⟩ := List.mem_map.1 hy
  have := (h x hx).1
  omega
theorem sumC_bound {C : List Int} {hi : Int} (h : inR 0 hi C) (h0 : 0 ≤ hi) : 0 ≤ sumC C ∧ sumC C ≤ hi * C.length := by
  have := sum_bound C 0 hi h
  simp only [Int.zero_mul] at this
  exact this
theorem usedC_bound {C : List Int} {hi : Int} (h : inR 0 hi C) : 0 ≤ usedC C ∧ usedC C ≤ C.length := by
  have := sum_bound _ 0 1 (used_range h)
  simp only [Int.zero_mul, List.length_map, Int.one_mul] at this
  exact this

/-! ### Single slots -/
def single (i : Nat) : E := ⟨0, 1, i⟩
/-- The slots below k that a test picks, as single extents. -/
def picks (f : Nat → Bool) (k : Nat) : List E := ((List.range k).filter f).map single
theorem picks_zero (f : Nat → Bool) : picks f 0 = [] := rfl
theorem picks_yes (f : Nat → Bool) (k : Nat) (h : f k = true) : picks f (k + 1) = picks f k ++ [single k] := by simp [picks, List.range_succ, h]
theorem picks_no (f : Nat → Bool) (k : Nat) (h : f k = false) : picks f (k + 1) = picks f k := by simp [picks, List.range_succ, h]
theorem picks_length (f : Nat → Bool) (k : Nat) : (picks f k).length ≤ k := by
  unfold picks
  rw [List.length_map]
  exact Nat.le_trans (List.length_filter_le _ _) (by simp)
theorem picks_congr (f g : Nat → Bool) (k : Nat) (h : ∀ i, i < k → f i = g i) : picks f k = picks g k := by
  unfold picks
  rw [List.filter_congr fun i hi => h i (List.mem_range.1 hi)]
theorem picks_wf (f : Nat → Bool) (k : Nat) (hk : k ≤ 65536) : wfL (picks f k) := by
  intro x hx
  obtain ⟨i, hi, rfl⟩ := List.mem_map.1 hx
  have := List.mem_range.1 (List.mem_filter.1 hi).1
  exact ⟨by simp [single], by simp [single], by simp only [single]; omega⟩
theorem single_ok (i : Nat) : okB (single i) = decide (i < 65536) := by
  rw [Bool.eq_iff_iff, okB_iff]
  simp only [single, decide_eq_true_eq]
  omega
theorem has_picks (f : Nat → Bool) (k : Nat) (hk : k ≤ 65536) (s : Int) : Has (picks f k) s ↔ 0 ≤ s ∧ s < k ∧ f s.toNat = true := by
  constructor
  · rintro ⟨x, hx, _, h1, h2⟩
    obtain ⟨i, hi, rfl⟩ := List.mem_map.1 hx
    obtain ⟨h3, h4⟩ := List.mem_filter.1 hi
    have h3 := List.mem_range.1 h3
    simp only [single] at h1 h2
    obtain rfl : s = i := by omega
    exact ⟨by omega, by omega, by simpa using h4⟩
  · rintro ⟨h1, h2, h3⟩
    refine ⟨single s.toNat, List.mem_map.2 ⟨_, List.mem_filter.2 ⟨List.mem_range.2 (by omega), h3⟩, rfl⟩, ?_, ?_, ?_⟩
    · rw [single_ok]; simp; omega
    · simp only [single]; omega
    · simp only [single]; omega
def zeroB (C : List Int) (i : Nat) : Bool := decide (C.getD i 0 = 0)
/-- The runs of the slots whose count is 0. -/
def zeroL (C : List Int) : List E := runsL (picks (zeroB C) C.length)

/-- The listed slots whose count in D is 0, one extent each: what one extent yields of its first k slots. -/
def freedX (D : List Int) (s : Nat) (k : Nat) : List E := ((List.range k).filter fun j => zeroB D (s + j)).map fun j => single (s + j)
theorem freedX_zero (D : List Int) (s : Nat) : freedX D s 0 = [] := rfl
theorem freedX_yes (D : List Int) (s k : Nat) (h : zeroB D (s + k) = true) : freedX D s (k + 1) = freedX D s k ++ [single (s + k)] := by simp [freedX, List.range_succ, h]
theorem freedX_no (D : List Int) (s k : Nat) (h : zeroB D (s + k) = false) : freedX D s (k + 1) = freedX D s k := by simp [freedX, List.range_succ, h]
theorem freedX_length (D : List Int) (s k : Nat) : (freedX D s k).length ≤ k := by
  unfold freedX
  rw [List.length_map]
  exact Nat.le_trans (List.length_filter_le _ _) (by simp)
def freedL (D : List Int) (l : List E) : List E := l.flatMap fun x => freedX D x.s.toNat x.n.toNat
theorem freedL_take (D : List Int) (l : List E) (k : Nat) (h : k < l.length) : freedL D (l.take (k + 1)) = freedL D (l.take k) ++ freedX D l[k].s.toNat l[k].n.toNat := by
  rw [List.take_succ_eq_append_getElem h]; simp only [freedL, List.flatMap_append, List.flatMap_cons, List.flatMap_nil, List.append_nil]
theorem freedL_length (D : List Int) (N : Nat) (l : List E) (h : permB N l = true) : (freedL D l).length ≤ N * l.length := by
  induction l with
  | nil => simp [freedL]
  | cons x r ih =>
    have h' := (permB_iff _ _).1 h
    have h1 := h' x (by simp)
    have h2 := ih ((permB_iff _ _).2 fun y hy => h' y (by simp [hy]))
    have h3 := freedX_length D x.s.toNat x.n.toNat
    simp only [freedL, List.flatMap_cons, List.length_append, List.length_cons] at h2 ⊢
    rw [Nat.mul_add]
    omega
theorem mem_freed (D : List Int) (l : List E) (N : Nat) (h : permB N l = true) (e : E) : e ∈ freedL D l ↔ ∃ i, e = single i ∧ zeroB D i = true ∧ 0 < cnt l i ∧ i < N := by
  have h' := (permB_iff _ _).1 h
  unfold freedL
  rw [List.mem_flatMap]
  constructor
  · rintro ⟨x, hx, he⟩
    obtain ⟨j, hj, rfl⟩ := List.mem_map.1 he
    obtain ⟨h1, h2⟩ := List.mem_filter.1 hj
    have h1 := List.mem_range.1 h1
    have h3 := h' x hx
    exact ⟨_, rfl, h2, (cnt_pos _ _).2 ⟨x, hx, by omega, by omega⟩, by omega⟩
  · rintro ⟨i, rfl, h1, h2, h3⟩
    obtain ⟨x, hx, h4, h5⟩ := (cnt_pos _ _).1 h2
    have h6 := h' x hx
    refine ⟨x, hx, List.mem_map.2 ⟨i - x.s.toNat, List.mem_filter.2 ⟨List.mem_range.2 (by omega), ?_⟩, ?_⟩⟩
    · rw [show x.s.toNat + (i - x.s.toNat) = i by omega]; exact h1
    · rw [show x.s.toNat + (i - x.s.toNat) = i by omega]
theorem freed_wf (D : List Int) (l : List E) (N : Nat) (hN : N ≤ 65536) (h : permB N l = true) : wfL (freedL D l) := by
  intro x hx
  obtain ⟨i, rfl, _, _, hi⟩ := (mem_freed D l N h x).1 hx
  exact ⟨by simp [single], by simp [single], by simp only [single]; omega⟩
/-- What Drop frees: the specification's mark. -/
def freeB (C D : List Int) (i : Nat) : Bool := decide (D.getD i 0 = 0) && decide (0 < C.getD i 0)
theorem freed_is (C : List Int) (l : List E) (hN : C.length ≤ 65536) (h : permB C.length l = true) (hC : ∀ i, i < C.length → 0 ≤ C.getD i 0) :
    runsL (freedL (chgL C l (-1)) l) = runsL (picks (freeB C (chgL C l (-1))) C.length) := by
  refine runs_mem fun e => ?_
  rw [mem_freed _ _ _ h]
  unfold picks
  rw [List.mem_map]
  constructor
  · rintro ⟨i, rfl, h1, h2, h3⟩
    refine ⟨i, List.mem_filter.2 ⟨List.mem_range.2 h3, ?_⟩, rfl⟩
    have hg := chgL_get l (-1) C h i h3
    simp only [zeroB, decide_eq_true_eq] at h1
    simp only [freeB, Bool.and_eq_true, decide_eq_true_eq]
    exact ⟨h1, by omega⟩
  · rintro ⟨i, hi, rfl⟩
    obtain ⟨h3, h4⟩ := List.mem_filter.1 hi
    have h3 := List.mem_range.1 h3
    have hg := chgL_get l (-1) C h i h3
    simp only [freeB, Bool.and_eq_true, decide_eq_true_eq] at h4
    exact ⟨i, rfl, decide_eq_true h4.1, by omega, h3⟩
end Go.Proofs.Ytolhajkbamhdgaa
