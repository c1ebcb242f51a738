/-
  Plain laws on free runs: clipping, what is taken, what is put back.
  Conditions: as each theorem says.
-/
import Derived.Test.YtolhajkbamhdgaaRcQ
namespace Go.Proofs.Ytolhajkbamhdgaa
set_option linter.unusedSimpArgs false
set_option linter.unusedVariables false

def runE (f t : Int) : E := ⟨0, t - f, f⟩
/-- The part of runs before a slot, and from it on. -/
def beforeL (l : List E) (p : Int) : List E := (l.filter fun x => decide (x.s < p)).map fun x => runE x.s (min (x.s + x.n) p)
def fromL (l : List E) (p : Int) : List E := (l.filter fun x => decide (p < x.s + x.n)).map fun x => runE (max x.s p) (x.s + x.n)
theorem beforeL_take (l : List E) (p : Int) (k : Nat) (h : k < l.length) : beforeL (l.take (k + 1)) p = if l[k].s < p then beforeL (l.take k) p ++ [runE l[k].s (min (l[k].s + l[k].n) p)] else beforeL (l.take k) p := by
  rw [List.take_succ_eq_append_getElem h]
  simp only [beforeL, List.filter_append, List.map_append, List.filter_cons, List.filter_nil]
  by_cases hp : l[k].s < p
  · simp [hp]
  · simp [hp]
theorem fromL_take (l : List E) (p : Int) (k : Nat) (h : k < l.length) : fromL (l.take (k + 1)) p = if p < l[k].s + l[k].n then fromL (l.take k) p ++ [runE (max l[k].s p) (l[k].s + l[k].n)] else fromL (l.take k) p := by
  rw [List.take_succ_eq_append_getElem h]
  simp only [fromL, List.filter_append, List.map_append, List.filter_cons, List.filter_nil]
  by_cases hp : p < l[k].s + l[k].n
  · simp [hp]
  · simp [hp]
theorem beforeL_length (l : List E) (p : Int) : (beforeL l p).length ≤ l.length := by
  unfold beforeL
  rw [List.length_map]
  exact List.length_filter_le _ _
theorem fromL_length (l : List E) (p : Int) : (fromL l p).length ≤ l.length := by
  unfold fromL
  rw [List.length_map]
  exact List.length_filter_le _ _
theorem runE_ok {f t : Int} (h0 : 0 ≤ f) (h1 : f < t) (h2 : t ≤ 65536) : okB (runE f t) = true := (okB_iff _).2 ⟨by simp only [runE]; omega, by simp [runE], by simp only [runE]; omega, by simp only [runE]; omega, by simp only [runE]; omega⟩
theorem inX_run (f t : Int) (i : Nat) : inX (runE f t) i = true ↔ f ≤ (i : Int) ∧ (i : Int) < t := by
  rw [inX_iff]
  simp only [runE]
  omega
theorem hasB_append (A B : List E) (i : Nat) : hasB (A ++ B) i = (hasB A i || hasB B i) := by simp [hasB]
theorem hasB_one (x : E) (h : okB x = true) (i : Nat) : hasB [x] i = inX x i := by simp [hasB, h]
theorem hasB_cons (x : E) (l : List E) (h : okB x = true) (i : Nat) : hasB (x :: l) i = (inX x i || hasB l i) := by simp [hasB, h]
theorem hasB_nil (i : Nat) : hasB [] i = false := rfl
theorem canon_cons {x : E} {r : List E} (h : Canon (x :: r)) : (x.a = 0 ∧ okB x = true) ∧ Canon r ∧ ∀ y ∈ r, x.s + x.n < y.s := by
  obtain ⟨h1, h2⟩ := h
  rw [List.pairwise_cons] at h2
  exact ⟨h1 x (by simp), ⟨fun y hy => h1 y (by simp [hy]), h2.2⟩, h2.1⟩
theorem canon_of {x : E} {r : List E} (h1 : x.a = 0) (h2 : okB x = true) (h3 : Canon r) (h4 : ∀ y ∈ r, x.s + x.n < y.s) : Canon (x :: r) := by
  refine ⟨fun y hy => ?_, List.pairwise_cons.2 ⟨h4, h3.2⟩⟩
  simp at hy
  rcases hy with rfl | hy
  · exact ⟨h1, h2⟩
  · exact h3.1 y hy
theorem canon_nil : Canon [] := ⟨by simp, by simp⟩
theorem beforeL_cons (x : E) (l : List E) (p : Int) : beforeL (x :: l) p = (if x.s < p then [runE x.s (min (x.s + x.n) p)] else []) ++ beforeL l p := by
  by_cases h : x.s < p <;> simp [beforeL, h]
theorem fromL_cons (x : E) (l : List E) (p : Int) : fromL (x :: l) p = (if p < x.s + x.n then [runE (max x.s p) (x.s + x.n)] else []) ++ fromL l p := by
  by_cases h : p < x.s + x.n <;> simp [fromL, h]
theorem beforeL_mem {l : List E} {p : Int} {y : E} (h : y ∈ beforeL l p) : ∃ x ∈ l, x.s < p ∧ y = runE x.s (min (x.s + x.n) p) := by
  obtain ⟨x, hx, rfl⟩ := List.mem_map.1 h
  obtain ⟨h1, h2⟩ := List.mem_filter.1 hx
  exact ⟨x, h1, of_decide_eq_true h2, rfl⟩
theorem fromL_mem {l : List E} {p : Int} {y : E} (h : y ∈ fromL l p) : ∃ x ∈ l, p < x.s + x.n ∧ y = runE (max x.s p) (x.s + x.n) := by
  obtain ⟨x, hx, rfl⟩ := List.mem_map.1 h
  obtain ⟨h1, h2⟩ := List.mem_filter.1 hx
  exact ⟨x, h1, of_decide_eq_true h2, rfl⟩
theorem beforeL_canon (l : List E) (p : Int) : Canon l → Canon (beforeL l p) := by
  induction l with
  | nil => intro _; exact canon_nil
  | cons x r ih =>
    intro h
    obtain ⟨⟨_, h2⟩, h3, h4⟩ := canon_cons h
    obtain ⟨e1, e2, e3, e4, e5⟩ := (okB_iff x).1 h2
    rw [beforeL_cons]
    by_cases hp : x.s < p
    · rw [if_pos hp]
      refine canon_of rfl (runE_ok e3 (by omega) (by omega)) (ih h3) fun y hy => ?_
      obtain ⟨z, hz, _, rfl⟩ := beforeL_mem hy
      have := h4 z hz
      simp only [runE]
      omega
    · rw [if_neg hp]
      exact ih h3
theorem fromL_canon (l : List E) (p : Int) : Canon l → Canon (fromL l p) := by
  induction l with
  | nil => intro _; exact canon_nil
  | cons x r ih =>
    intro h
    obtain ⟨⟨_, h2⟩, h3, h4⟩ := canon_cons h
    obtain ⟨e1, e2, e3, e4, e5⟩ := (okB_iff x).1 h2
    rw [fromL_cons]
    by_cases hp : p < x.s + x.n
    · rw [if_pos hp]
      refine canon_of rfl (runE_ok (by omega) (by omega) (by omega)) (ih h3) fun y hy => ?_
      obtain ⟨z, hz, _, rfl⟩ := fromL_mem hy
      have := h4 z hz
      simp only [runE]
      omega
    · rw [if_neg hp]
      exact ih h3
theorem hasB_before (l : List E) (p : Int) (i : Nat) : Canon l → hasB (beforeL l p) i = (hasB l i && decide ((i : Int) < p)) := by
  induction l with
  | nil => intro _; simp [beforeL, hasB]
  | cons x r ih =>
    intro h
    obtain ⟨⟨_, h2⟩, h3, h4⟩ := canon_cons h
    obtain ⟨e1, e2, e3, e4, e5⟩ := (okB_iff x).1 h2
    rw [beforeL_cons, hasB_append, ih h3, hasB_cons x r h2, Bool.and_or_distrib_right]
    congr 1
    by_cases hp : x.s < p
    · rw [if_pos hp, hasB_one _ (runE_ok e3 (by omega) (by omega)), Bool.eq_iff_iff, inX_run]
      simp only [Bool.and_eq_true, inX_iff, decide_eq_true_eq]
      omega
    · rw [if_neg hp, hasB_nil]
      symm
      rw [Bool.eq_false_iff]
      simp only [ne_eq, Bool.and_eq_true, inX_iff, decide_eq_true_eq]
      omega
theorem hasB_from (l : List E) (p : Int) (i : Nat) : Canon l → hasB (fromL l p) i = (hasB l i && decide (p ≤ (i : Int))) := by
  induction l with
  | nil => intro _; simp [fromL, hasB]
  | cons x r ih =>
    intro h
    obtain ⟨⟨_, h2⟩, h3, h4⟩ := canon_cons h
    obtain ⟨e1, e2, e3, e4, e5⟩ := (okB_iff x).1 h2
    rw [fromL_cons, hasB_append, ih h3, hasB_cons x r h2, Bool.and_or_distrib_right]
    congr 1
    by_cases hp : p < x.s + x.n
    · rw [if_pos hp, hasB_one _ (runE_ok (by omega) (by omega) (by omega)), Bool.eq_iff_iff, inX_run]
      simp only [Bool.and_eq_true, inX_iff, decide_eq_true_eq]
      omega
    · rw [if_neg hp, hasB_nil]
      symm
      rw [Bool.eq_false_iff]
      simp only [ne_eq, Bool.and_eq_true, inX_iff, decide_eq_true_eq]
      omega

/-- Runs without other ones. -/
def lessX (l : List E) (x : E) : List E := beforeL l x.s ++ fromL (fromL l x.s) (x.s + x.n)
def withoutL (l less : List E) : List E := less.foldl lessX l
theorem withoutL_take (l less : List E) (k : Nat) (h : k < less.length) : withoutL l (less.take (k + 1)) = lessX (withoutL l (less.take k)) less[k] := by
  rw [List.take_succ_eq_append_getElem h]
  simp only [withoutL, List.foldl_append, List.foldl_cons, List.foldl_nil]
theorem canon_append {A B : List E} (hA : Canon A) (hB : Canon B) (h : ∀ x ∈ A, ∀ y ∈ B, x.s + x.n < y.s) : Canon (A ++ B) := by
  refine ⟨fun x hx => ?_, List.pairwise_append.2 ⟨hA.2, hB.2, h⟩⟩
  rcases List.mem_append.1 hx with h1 | h1
  · exact hA.1 x h1
  · exact hB.1 x h1
theorem lessX_canon (l : List E) (x : E) (hl : Canon l) (hx : 1 ≤ x.n) : Canon (lessX l x) := by
  refine canon_append (beforeL_canon _ _ hl) (fromL_canon _ _ (fromL_canon _ _ hl)) fun y hy z hz => ?_
  obtain ⟨u, _, _, rfl⟩ := beforeL_mem hy
  obtain ⟨v, _, _, rfl⟩ := fromL_mem hz
  simp only [runE]
  omega
theorem hasB_less (l : List E) (x : E) (hl : Canon l) (i : Nat) (hx : 1 ≤ x.n) : hasB (lessX l x) i = (hasB l i && !inX x i) := by
  unfold lessX
  rw [hasB_append, hasB_before _ _ _ hl, hasB_from _ _ _ (fromL_canon _ _ hl), hasB_from _ _ _ hl]
  cases hasB l i
  · rfl
  · rw [Bool.eq_iff_iff]
    simp only [Bool.true_and, Bool.or_eq_true, Bool.and_eq_true, decide_eq_true_eq, Bool.not_eq_true', Bool.eq_false_iff, ne_eq, inX_iff]
    omega
theorem without_facts (less : List E) (h : ∀ x ∈ less, okB x = true) : ∀ l, Canon l → Canon (withoutL l less) ∧ ∀ i, hasB (withoutL l less) i = (hasB l i && !hasB less i) := by
  induction less with
  | nil => intro l hl; exact ⟨hl, fun i => by simp [withoutL, hasB]⟩
  | cons x r ih =>
    intro l hl
    have hx := h x (by simp)
    have hn := ((okB_iff x).1 hx).1
    obtain ⟨h1, h2⟩ := ih (fun y hy => h y (by simp [hy])) (lessX l x) (lessX_canon l x hl hn)
    refine ⟨h1, fun i => ?_⟩
    have : withoutL l (x :: r) = withoutL (lessX l x) r := rfl
    rw [this, h2, hasB_less l x hl i hn, hasB_cons x r hx]
    cases hasB l i <;> cases inX x i <;> cases hasB r i <;> rfl
end Go.Proofs.Ytolhajkbamhdgaa
