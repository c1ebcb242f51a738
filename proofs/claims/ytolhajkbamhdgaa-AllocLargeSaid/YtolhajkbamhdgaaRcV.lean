/-
  Plain laws on slots that were listed: marks as a function, what is seen behind some rounds.
  Conditions: as each theorem says.
-/
import Derived.Test.YtolhajkbamhdgaaRcQ
namespace Go.Proofs.Ytolhajkbamhdgaa
set_option linter.unusedSimpArgs false
set_option linter.unusedVariables false

/-- The slot is listed, whatever the list. -/
def listX (x : E) (i : Nat) : Bool := decide (1 ≤ x.n) && inX x i
def listB (l : List E) (i : Nat) : Bool := l.any fun x => listX x i
theorem listB_take (l : List E) (k : Nat) (h : k < l.length) (i : Nat) : listB (l.take (k + 1)) i = (listB (l.take k) i || listX l[k] i) := by
  rw [List.take_succ_eq_append_getElem h]; simp only [listB, List.any_append, List.any_cons, List.any_nil, Bool.or_false]
def oneB (C : List Int) (i : Nat) : Bool := decide (C.getD i 0 = 1)
/-- How many listed slots have the count 1. -/
def singleC (C : List Int) (l : List E) : Int := area (fun i => listB l i && oneB C i) C.length
def mk (f : Nat → Bool) (n : Nat) : List Bool := (List.range n).map f
theorem mk_length (f : Nat → Bool) (n : Nat) : (mk f n).length = n := by simp [mk]
theorem mk_false (n : Nat) : mk (fun _ => false) n = List.replicate n false := by
  apply List.ext_getElem
  · simp [mk]
  · intro i h1 h2
    simp [mk]
theorem mk_get (f : Nat → Bool) (n i : Nat) (h : i < n) : (mk f n).getD i false = f i := by
  rw [List.getD_eq_getElem?_getD]
  simp [mk, h]
theorem mk_congr (f g : Nat → Bool) (n : Nat) (h : ∀ i, i < n → f i = g i) : mk f n = mk g n := by
  unfold mk
  exact List.map_congr_left fun i hi => h i (List.mem_range.1 hi)
theorem mk_set (f : Nat → Bool) (p n : Nat) (b : Bool) : (mk f n).set p b = mk (fun i => if i = p then b else f i) n := by
  apply List.ext_getElem
  · simp [mk]
  · intro i h1 h2
    simp only [mk, List.getElem_set, List.getElem_map, List.getElem_range]
    by_cases h : p = i
    · subst h; simp
    · rw [if_neg h, if_neg (fun e => h e.symm)]
theorem area_add (f g : Nat → Bool) (p n : Nat) (hp : p < n) (h : ∀ i, i < n → i ≠ p → f i = g i) (h1 : f p = false) (h2 : g p = true) : area g n = area f n + 1 := by
  induction n with
  | zero => omega
  | succ n ih =>
    simp only [area]
    by_cases he : p = n
    · subst he
      rw [area_congr g f p fun i hi => (h i (by omega) (by omega)).symm, h1, h2]
      simp
    · rw [ih (by omega) fun i hi hne => h i (by omega) hne, h n (by omega) (fun e => he e.symm)]
      omega
/-- What is seen behind some rounds: the extents before, and a part of the next one. -/
def seenB (L : Nat → Bool) (s p : Nat) (i : Nat) : Bool := L i || (decide (s ≤ i) && decide (i < p))
theorem seenB_zero (L : Nat → Bool) (s p : Nat) (h : p ≤ s) (i : Nat) : seenB L s p i = L i := by
  unfold seenB
  have : (decide (s ≤ i) && decide (i < p)) = false := by simp; omega
  rw [this, Bool.or_false]
theorem seenB_at (L : Nat → Bool) (s p i : Nat) (h : p ≤ i) : seenB L s p i = L i := by
  unfold seenB
  have : (decide (s ≤ i) && decide (i < p)) = false := by simp; omega
  rw [this, Bool.or_false]
theorem seen_step (L : Nat → Bool) (s p n : Nat) (h : s ≤ p) : (mk (seenB L s p) n).set p true = mk (seenB L s (p + 1)) n := by
  rw [mk_set]
  refine mk_congr _ _ _ fun i _ => ?_
  unfold seenB
  by_cases hi : i = p
  · subst hi
    simp [h]
  · rw [if_neg hi]
    congr 1
    rw [Bool.eq_iff_iff]
    simp only [Bool.and_eq_true, decide_eq_true_eq]
    omega
theorem seen_same (L : Nat → Bool) (C : List Int) (s p n : Nat) (hs : s ≤ p) (h : (!seenB L s p p && oneB C p) = false) : area (fun i => seenB L s (p + 1) i && oneB C i) n = area (fun i => seenB L s p i && oneB C i) n := by
  refine area_congr _ _ _ fun i _ => ?_
  by_cases hi : i = p
  · subst hi
    cases ho : oneB C i
    · simp
    · rw [ho] at h
      have h1 : seenB L s i i = true := by simpa using h
      rw [h1]
      have h2 : seenB L s (i + 1) i = true := by unfold seenB; simp [hs]
      rw [h2]
  · congr 1
    unfold seenB
    congr 1
    rw [Bool.eq_iff_iff]
    simp only [Bool.and_eq_true, decide_eq_true_eq]
    omega
theorem seen_more (L : Nat → Bool) (C : List Int) (s p n : Nat) (hs : s ≤ p) (hp : p < n) (h1 : seenB L s p p = false) (h2 : oneB C p = true) : area (fun i => seenB L s (p + 1) i && oneB C i) n = area (fun i => seenB L s p i && oneB C i) n + 1 := by
  refine area_add _ _ p n hp (fun i _ hi => ?_) ?_ ?_
  · congr 1
    unfold seenB
    congr 1
    rw [Bool.eq_iff_iff]
    simp only [Bool.and_eq_true, decide_eq_true_eq]
    omega
  · show (seenB L s p p && oneB C p) = false
    rw [h1]
    rfl
  · show (seenB L s (p + 1) p && oneB C p) = true
    rw [h2]
    unfold seenB
    simp [hs]
/-- One extent seen whole. -/
theorem seen_all (L : Nat → Bool) (x : E) (s p n : Nat) (T : Int) (hs : (s : Int) = max x.s 0) (hT : T = if 1 ≤ x.n then min (n : Int) (x.s + x.n) else 0) (h1 : s ≤ p) (h2 : T ≤ p) (h3 : (p : Int) ≤ T ∨ p = s) (i : Nat) (hi : i < n) : seenB L s p i = (L i || listX x i) := by
  unfold seenB listX inX
  congr 1
  rw [Bool.eq_iff_iff]
  simp only [Bool.and_eq_true, decide_eq_true_eq]
  by_cases h : 1 ≤ x.n
  · rw [if_pos h] at hT
    omega
  · rw [if_neg h] at hT
    omega
end Go.Proofs.Ytolhajkbamhdgaa
