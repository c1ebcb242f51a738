/-
  Plain mathematics of lists of extents: validity, normal forms. No program in sight.
-/
import Derived.Test.YtolhajkbamhdgaaTgA
namespace Go.Proofs.Ytolhajkbamhdgaa
set_option linter.unusedSimpArgs false
set_option linter.unusedVariables false

def withinB (a n s : Int) : Bool := decide (0 ≤ a ∧ 0 ≤ n ∧ a ≤ s ∧ n ≤ s - a)
def properB (a n s : Int) : Bool := decide (1 ≤ n) && (withinB a n 65536 && withinB s n 65536)
theorem properB_iff (a n s : Int) : properB a n s = true ↔ 1 ≤ n ∧ 0 ≤ a ∧ 0 ≤ s ∧ a + n ≤ 65536 ∧ s + n ≤ 65536 := by
  simp only [properB, withinB, Bool.and_eq_true, decide_eq_true_eq]; omega

/-! ### Lists of extents in memory -/
structure E where
  a : Int
  n : Int
  s : Int
/-- Every number of an extent is an int. -/
def E.wf (x : E) : Prop := (-9223372036854775808 ≤ x.a ∧ x.a ≤ 9223372036854775807) ∧ (-9223372036854775808 ≤ x.n ∧ x.n ≤ 9223372036854775807) ∧ (-9223372036854775808 ≤ x.s ∧ x.s ≤ 9223372036854775807)
def wfL (l : List E) : Prop := ∀ x ∈ l, x.wf

def okB (x : E) : Bool := properB x.a x.n x.s
/-- The list is valid from a first block on. -/
def validFrom : Int → List E → Bool
  | _, [] => true
  | e, x :: r => okB x && (decide (e ≤ x.a) && validFrom (x.a + x.n) r)
def validB (l : List E) : Bool := validFrom 0 l

/-- In a valid list: the k-th. -/
def lastEnd (l : List E) : Int := (l.getLast?.map fun x => x.a + x.n).getD 0
theorem validFrom_snoc (l : List E) (x : E) : ∀ e, validFrom e (l ++ [x]) = (validFrom e l && (okB x && decide ((l.getLast?.map fun y => y.a + y.n).getD e ≤ x.a))) := by
  induction l with
  | nil => intro e; simp [validFrom]; rfl
  | cons y r ih =>
    intro e
    simp only [List.cons_append, validFrom, ih, Bool.and_assoc]
    cases r with
    | nil => simp [validFrom]; rfl
    | cons z r => simp [List.getLast?_cons]
theorem validB_take (l : List E) (k : Nat) (h : k < l.length) : validB (l.take (k + 1)) = (validB (l.take k) && (okB l[k] && decide (((l.take k).getLast?.map fun y => y.a + y.n).getD 0 ≤ l[k].a))) := by
  rw [List.take_succ_eq_append_getElem h]
  exact validFrom_snoc _ _ _
theorem validB_zero (l : List E) (h : 0 < l.length) : validB (l.take (0 + 1)) = okB l[0] := by
  rw [validB_take l 0 h, Bool.eq_iff_iff]
  generalize l[0] = x
  simp only [List.take_zero, validB, validFrom, okB, properB_iff, Bool.and_eq_true, Bool.true_and, List.getLast?_nil, Option.map_none, Option.getD_none]
  constructor
  · exact fun h => h.1
  · exact fun h => ⟨h, decide_eq_true h.2.1⟩
theorem validB_zero' (l : List E) (k : Nat) (h0 : k ≤ 0) (h : k < l.length) : validB (l.take (k + 1)) = okB l[k] := by
  obtain rfl : k = 0 := by omega
  exact validB_zero l h
theorem validB_succ (l : List E) (k : Nat) (h : k < l.length) (h0 : 0 < k) : validB (l.take (k + 1)) = (validB (l.take k) && (okB l[k] && decide (l[k - 1].a + l[k - 1].n ≤ l[k].a))) := by
  rw [validB_take l k h]
  have : (l.take k).getLast? = some l[k - 1] := by
    rw [List.getLast?_eq_getElem?, List.length_take, Nat.min_eq_left (Nat.le_of_lt h), List.getElem?_take, if_pos (by omega), List.getElem?_eq_getElem (by omega)]
  rw [this]; rfl
theorem validB_mono (l : List E) : ∀ k, validB l = true → validB (l.take k) = true := by
  have key : ∀ (l : List E) k e, validFrom e l = true → validFrom e (l.take k) = true := by
    intro l
    induction l with
    | nil => intro k e; simp
    | cons x r ih =>
      intro k e h
      cases k with
      | zero => simp [validFrom]
      | succ k =>
        simp only [List.take_succ_cons, validFrom, Bool.and_eq_true] at h ⊢
        exact ⟨h.1, h.2.1, ih _ _ h.2.2⟩
  exact fun k h => key l k 0 h
theorem validB_false (l : List E) (k : Nat) (h : validB (l.take k) = false) : validB l = false := by
  cases hv : validB l with
  | false => rfl
  | true => rw [validB_mono l k hv] at h; exact h


theorem validFrom_ok (l : List E) : ∀ e, validFrom e l = true → ∀ x ∈ l, okB x = true := by
  induction l with
  | nil => intro e _ x hx; cases hx
  | cons y r ih =>
    intro e h x hx
    simp only [validFrom, Bool.and_eq_true] at h
    rcases List.mem_cons.1 hx with rfl | hx
    · exact h.1
    · exact ih _ h.2.2 x hx
theorem validB_ok {l : List E} (h : validB l = true) : ∀ x ∈ l, okB x = true := validFrom_ok l 0 h
theorem okB_iff (x : E) : okB x = true ↔ 1 ≤ x.n ∧ 0 ≤ x.a ∧ 0 ≤ x.s ∧ x.a + x.n ≤ 65536 ∧ x.s + x.n ≤ 65536 := properB_iff _ _ _
theorem take_ok {l : List E} {k j : Nat} (h : validB (l.take k) = true) (hj : j < k) (hl : j < l.length) : okB l[j] = true := by
  refine validB_ok h _ ?_
  rw [List.mem_iff_getElem?]
  exact ⟨j, by rw [List.getElem?_take, if_pos hj]; exact List.getElem?_eq_getElem hl⟩

/-! ### Normal forms -/
/-- Two neighbours that are one. -/
def meets (y x : E) : Bool := decide (y.a + y.n = x.a) && decide (y.s + y.n = x.s)
def E.longer (y : E) (n : Int) : E := ⟨y.a, y.n + n, y.s⟩
/-- An extent behind a normal form. -/
def pushL (l : List E) (x : E) : List E :=
  match l.getLast? with
  | some y => if meets y x then l.dropLast ++ [y.longer x.n] else l ++ [x]
  | none => [x]
def joinL (l : List E) : List E := l.foldl pushL []
theorem pushL_nil (x : E) : pushL [] x = [x] := rfl
theorem pushL_yes (l : List E) (y x : E) (h : meets y x = true) : pushL (l ++ [y]) x = l ++ [y.longer x.n] := by
  simp [pushL, h]
theorem pushL_no (l : List E) (y x : E) (h : meets y x = false) : pushL (l ++ [y]) x = l ++ [y] ++ [x] := by
  simp [pushL, h]
theorem snoc_of (l : List E) (h : l ≠ []) : ∃ l' y, l = l' ++ [y] := ⟨l.dropLast, l.getLast h, (List.dropLast_concat_getLast h).symm⟩
theorem pushL_length (l : List E) (x : E) : (pushL l x).length ≤ l.length + 1 := by
  by_cases h : l = []
  · subst h; simp [pushL]
  · obtain ⟨l', y, rfl⟩ := snoc_of l h
    cases hm : meets y x
    · rw [pushL_no _ _ _ hm]; simp
    · rw [pushL_yes _ _ _ hm]; simp
theorem pushL_ok (l : List E) (x : E) (hl : ∀ y ∈ l, okB y = true) (hx : okB x = true) : ∀ y ∈ pushL l x, okB y = true := by
  by_cases h : l = []
  · subst h; intro y hy; simp [pushL] at hy; rw [hy]; exact hx
  · obtain ⟨l', z, rfl⟩ := snoc_of l h
    intro y hy
    cases hm : meets z x
    · rw [pushL_no _ _ _ hm] at hy
      rcases List.mem_append.1 hy with hy | hy
      · exact hl y hy
      · simp at hy; rw [hy]; exact hx
    · rw [pushL_yes _ _ _ hm] at hy
      rcases List.mem_append.1 hy with hy | hy
      · exact hl y (List.mem_append_left _ hy)
      · simp at hy
        rw [hy]
        have h1 := hl z (by simp)
        simp only [meets, Bool.and_eq_true, decide_eq_true_eq] at hm
        rw [okB_iff] at h1 hx ⊢
        simp only [E.longer]
        omega

theorem joinL_snoc (l : List E) (x : E) : joinL (l ++ [x]) = pushL (joinL l) x := by simp [joinL]
theorem joinL_take (l : List E) (k : Nat) (h : k < l.length) : joinL (l.take (k + 1)) = pushL (joinL (l.take k)) l[k] := by
  rw [List.take_succ_eq_append_getElem h, joinL_snoc]
theorem snoc_ind {P : List E → Prop} (h0 : P []) (h1 : ∀ l x, P l → P (l ++ [x])) (l : List E) : P l := by
  have : ∀ n (l : List E), l.length = n → P l := by
    intro n
    induction n with
    | zero => intro l hl; rw [List.eq_nil_of_length_eq_zero hl]; exact h0
    | succ n ih =>
      intro l hl
      obtain ⟨l', y, rfl⟩ := snoc_of l (by intro e; rw [e] at hl; simp at hl)
      exact h1 _ _ (ih _ (by simp at hl; omega))
  exact this _ l rfl
theorem joinL_length (l : List E) : (joinL l).length ≤ l.length := by
  induction l using snoc_ind with
  | h0 => simp [joinL]
  | h1 l x ih =>
    rw [joinL_snoc]
    have := pushL_length (joinL l) x
    simp
    omega
theorem joinL_ok (l : List E) : (∀ x ∈ l, okB x = true) → ∀ x ∈ joinL l, okB x = true := by
  induction l using snoc_ind with
  | h0 => intro _ x hx; simp [joinL] at hx
  | h1 l x ih =>
    intro h
    rw [joinL_snoc]
    exact pushL_ok _ _ (ih fun y hy => h y (List.mem_append_left _ hy)) (h x (by simp))

end Go.Proofs.Ytolhajkbamhdgaa
