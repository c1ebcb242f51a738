/-
  Plain mathematics: what Cut leaves and removes, as the normal forms of the parts of a list.
-/
import Derived.Test.YtolhajkbamhdgaaTgQ
namespace Go.Proofs.Ytolhajkbamhdgaa
set_option linter.unusedSimpArgs false
set_option linter.unusedVariables false

theorem E.ext' {x y : E} (h1 : x.a = y.a) (h2 : x.n = y.n) (h3 : x.s = y.s) : x = y := by
  cases x; cases y; simp_all
def eqE (x y : E) : Bool := decide (x.a = y.a) && (decide (x.n = y.n) && decide (x.s = y.s))
theorem eqE_iff (x y : E) : eqE x y = true ↔ x = y := by
  simp only [eqE, Bool.and_eq_true, decide_eq_true_eq]
  exact ⟨fun ⟨h1, h2, h3⟩ => E.ext' h1 h2 h3, fun h => by rw [h]; exact ⟨rfl, rfl, rfl⟩⟩
def sameB : List E → List E → Bool
  | [], [] => true
  | x :: l, y :: r => eqE x y && sameB l r
  | _, _ => false
theorem sameB_iff (l r : List E) : sameB l r = true ↔ l = r := by
  induction l generalizing r with
  | nil => cases r <;> simp [sameB]
  | cons x l ih => cases r with
    | nil => simp [sameB]
    | cons y r => simp [sameB, ih, eqE_iff]
theorem sameB_refl (l : List E) : sameB l l = true := (sameB_iff l l).2 rfl
theorem validFrom_iff (l : List E) : ∀ e, validFrom e l = true ↔ (∀ x ∈ l, okB x = true) ∧ l.Pairwise (fun x y => x.a + x.n ≤ y.a) ∧ ∀ x ∈ l, e ≤ x.a := by
  induction l with
  | nil => intro e; simp [validFrom]
  | cons x r ih =>
    intro e
    simp only [validFrom, Bool.and_eq_true, decide_eq_true_eq, ih, List.pairwise_cons, List.mem_cons, forall_eq_or_imp]
    constructor
    · rintro ⟨h1, h2, h3, h4, h5⟩
      have := (okB_iff x).1 h1
      exact ⟨⟨h1, h3⟩, ⟨h5, h4⟩, h2, fun y hy => by have := h5 y hy; omega⟩
    · rintro ⟨⟨h1, h3⟩, ⟨h5, h4⟩, h2, _⟩
      exact ⟨h1, h2, h3, h4, h5⟩
theorem validB_iff (l : List E) : validB l = true ↔ (∀ x ∈ l, okB x = true) ∧ l.Pairwise (fun x y => x.a + x.n ≤ y.a) := by
  unfold validB
  rw [validFrom_iff]
  constructor
  · exact fun h => ⟨h.1, h.2.1⟩
  · exact fun h => ⟨h.1, h.2, fun x hx => ((okB_iff x).1 (h.1 x hx)).2.1⟩
theorem parts_valid (l : List E) (f t : Int) (h : validB l = true) : validB (partsL l f t) = true := by
  rw [validB_iff] at h ⊢
  refine ⟨partsL_ok l f t h.1, ?_⟩
  unfold partsL
  rw [List.pairwise_map]
  have h2 : (l.filter fun x => partB x f t).Pairwise (fun x y => x.a + x.n ≤ y.a) := h.2.sublist List.filter_sublist
  refine h2.imp_of_mem ?_
  intro x y hx hy hxy
  have k1 := (List.mem_filter.1 hx).2
  have k2 := (List.mem_filter.1 hy).2
  simp only [partB, decide_eq_true_eq, partE] at *
  omega
theorem parts_range (l : List E) (f t : Int) : ∀ x ∈ partsL l f t, f ≤ x.a ∧ x.a + x.n ≤ t := by
  intro x hx
  unfold partsL at hx
  obtain ⟨y, hy, rfl⟩ := List.mem_map.1 hx
  have k := (List.mem_filter.1 hy).2
  simp only [partB, decide_eq_true_eq, partE] at *
  omega
theorem parts_append_valid (l : List E) (f t g u : Int) (h : validB l = true) (htg : t ≤ g) : validB (partsL l f t ++ partsL l g u) = true := by
  have h1 := (validB_iff _).1 (parts_valid l f t h)
  have h2 := (validB_iff _).1 (parts_valid l g u h)
  rw [validB_iff]
  refine ⟨fun x hx => ?_, ?_⟩
  · rcases List.mem_append.1 hx with hx | hx
    · exact h1.1 x hx
    · exact h2.1 x hx
  · rw [List.pairwise_append]
    refine ⟨h1.2, h2.2, fun x hx y hy => ?_⟩
    have a := parts_range l f t x hx
    have b := parts_range l g u y hy
    omega
theorem inL_eq (l : List E) (p n : Int) : inL l p n = joinL (partsL l p (p + n)) := by
  induction l using snoc_ind with
  | h0 => rfl
  | h1 l x ih =>
    have e : inL (l ++ [x]) p n = inStep p n (inL l p n) x := by simp [inL]
    rw [e, partsL_snoc, ih]
    unfold inStep pushIf
    cases partB x p (p + n)
    · rfl
    · simp [joinL_snoc]
theorem parts_nil_of (l : List E) (f t : Int) (h : ∀ x ∈ l, x.a + x.n ≤ f) : partsL l f t = [] := by
  unfold partsL
  rw [List.map_eq_nil_iff, List.filter_eq_nil_iff]
  intro x hx
  have := h x hx
  simp only [partB, decide_eq_true_eq]
  omega
theorem cutL_eq (l : List E) (p n : Int) (hn : 0 ≤ n) : validB l = true → cutL l p n = joinL (partsL l 0 p ++ partsL l (p + n) 65536) := by
  induction l using snoc_ind with
  | h0 => intro _; rfl
  | h1 l x ih =>
    intro h
    rw [validB_iff] at h
    have hp := List.pairwise_append.1 h.2
    have hv : validB l = true := (validB_iff l).2 ⟨fun y hy => h.1 y (List.mem_append_left _ hy), hp.1⟩
    have e : cutL (l ++ [x]) p n = cutStep p n (cutL l p n) x := by simp [cutL]
    rw [e, partsL_snoc, partsL_snoc, ih hv]
    unfold cutStep pushIf
    cases h1 : partB x 0 p
    · cases h2 : partB x (p + n) 65536
      · simp
      · simp only [Bool.false_eq_true, if_false, if_true]
        rw [← List.append_assoc, joinL_snoc]
    · have hr : partsL l (p + n) 65536 = [] := parts_nil_of l _ _ fun y hy => by
        have := hp.2.2 y hy x (by simp)
        simp only [partB, decide_eq_true_eq] at h1
        omega
      rw [hr]
      cases h2 : partB x (p + n) 65536
      · simp [joinL_snoc]
      · simp only [if_true, List.append_nil, List.nil_append]
        rw [joinL_snoc, joinL_snoc]

end Go.Proofs.Ytolhajkbamhdgaa
