/-
  Plain mathematics: what a list maps, unchanged by joining; divided and changed extents.
-/
import Derived.Test.YtolhajkbamhdgaaTgR
namespace Go.Proofs.Ytolhajkbamhdgaa
set_option linter.unusedSimpArgs false
set_option linter.unusedVariables false

theorem hits_iff (p : Int) (x : E) : hits p x = true ↔ x.a ≤ p ∧ p < x.a + x.n := by
  simp only [hits, Bool.and_eq_true, decide_eq_true_eq]
theorem meets_iff (y x : E) : meets y x = true ↔ y.a + y.n = x.a ∧ y.s + y.n = x.s := by
  simp only [meets, Bool.and_eq_true, decide_eq_true_eq]
/-- The slot to which a list maps a block. -/
def slotAt (l : List E) (p : Int) : Option Int := (l.find? (hits p)).map fun x => x.s + p - x.a
theorem slotAt_append (l r : List E) (p : Int) : slotAt (l ++ r) p = (slotAt l p).or (slotAt r p) := by
  unfold slotAt
  rw [List.find?_append]
  cases l.find? (hits p) <;> simp
theorem slotAt_one (x : E) (p : Int) : slotAt [x] p = if hits p x then some (x.s + p - x.a) else none := by
  unfold slotAt
  cases h : hits p x <;> simp [h]
theorem slotAt_longer (y x : E) (p : Int) (hy : 0 ≤ y.n) (hx : 0 ≤ x.n) (hm : meets y x = true) : slotAt [y.longer x.n] p = (slotAt [y] p).or (slotAt [x] p) := by
  simp only [meets, Bool.and_eq_true, decide_eq_true_eq] at hm
  obtain ⟨h1, h2⟩ := hm
  rw [slotAt_one, slotAt_one, slotAt_one]
  have e1 : hits p (y.longer x.n) = (hits p y || hits p x) := by
    rw [Bool.eq_iff_iff]
    rw [Bool.or_eq_true, hits_iff, hits_iff, hits_iff]
    simp only [E.longer]
    omega
  have e2 : y.s + p - y.a = x.s + p - x.a := by omega
  rw [e1]
  cases hy' : hits p y
  · cases hx' : hits p x
    · simp
    · simp [E.longer, e2]
  · simp [E.longer]
theorem slotAt_push (l : List E) (x : E) (p : Int) (hl : ∀ y ∈ l, 0 ≤ y.n) (hx : 0 ≤ x.n) : slotAt (pushL l x) p = (slotAt l p).or (slotAt [x] p) := by
  by_cases h : l = []
  · subst h; simp [pushL, slotAt]
  · obtain ⟨l', y, rfl⟩ := snoc_of l h
    cases hm : meets y x
    · rw [pushL_no _ _ _ hm, slotAt_append]
    · rw [pushL_yes _ _ _ hm, slotAt_append, slotAt_longer y x p (hl y (by simp)) hx hm, slotAt_append, Option.or_assoc]
theorem joinL_nonneg (l : List E) (h : ∀ x ∈ l, okB x = true) : ∀ x ∈ joinL l, 0 ≤ x.n := fun x hx => by
  have := (okB_iff x).1 (joinL_ok l h x hx); omega
theorem slotAt_join (l : List E) (p : Int) : (∀ x ∈ l, okB x = true) → slotAt (joinL l) p = slotAt l p := by
  induction l using snoc_ind with
  | h0 => intro _; rfl
  | h1 l x ih =>
    intro h
    have hl : ∀ y ∈ l, okB y = true := fun y hy => h y (List.mem_append_left _ hy)
    have hx := (okB_iff x).1 (h x (by simp))
    rw [joinL_snoc, slotAt_push _ _ _ (joinL_nonneg l hl) (by omega), ih hl, slotAt_append]
/-- In a valid list each extent is found at its blocks. -/
theorem slotAt_mem (l : List E) (h : validB l = true) (x : E) (hx : x ∈ l) (p : Int) (hp : hits p x = true) : slotAt l p = some (x.s + p - x.a) := by
  rw [validB_iff] at h
  obtain ⟨hok, hpw⟩ := h
  induction l with
  | nil => cases hx
  | cons y r ih =>
    have hpw' := List.pairwise_cons.1 hpw
    rcases List.mem_cons.1 hx with rfl | hx
    · show slotAt ([x] ++ r) p = _
      rw [slotAt_append, slotAt_one]; simp [hp]
    · show slotAt ([y] ++ r) p = _
      rw [slotAt_append, slotAt_one]
      have h1 := hpw'.1 x hx
      have h2 := (okB_iff y).1 (hok y (by simp))
      have hn : hits p y = false := by
        simp only [hits, Bool.and_eq_true, decide_eq_true_eq] at hp
        cases hh : hits p y with
        | false => rfl
        | true => simp only [hits, Bool.and_eq_true, decide_eq_true_eq] at hh; omega
      simp [hn]
      exact ih hx (fun z hz => hok z (by simp [hz])) hpw'.2

/-! ### A slot changed -/
theorem set_split (l : List E) (k : Nat) (h : k < l.length) (y : E) : l.set k y = l.take k ++ y :: l.drop (k + 1) := by
  rw [List.set_eq_take_append_cons_drop, if_pos h]
theorem split_at (l : List E) (k : Nat) (h : k < l.length) : l = l.take k ++ l[k] :: l.drop (k + 1) := by
  rw [← List.drop_eq_getElem_cons h, List.take_append_drop]
/-- Validity looks at an extent's blocks alone, and at its slots by themselves. -/
theorem valid_swap (A B : List E) (x : E) (C : List E) (hC : ∀ y ∈ C, okB y = true) (hCp : C.Pairwise fun x y => x.a + x.n ≤ y.a) (hlo : ∀ y ∈ C, x.a ≤ y.a) (hhi : ∀ y ∈ C, y.a + y.n ≤ x.a + x.n)
    (h : validB (A ++ x :: B) = true) : validB (A ++ (C ++ B)) = true := by
  rw [validB_iff] at *
  obtain ⟨h1, h2⟩ := h
  obtain ⟨p1, p2, p3⟩ := List.pairwise_append.1 h2
  obtain ⟨p4, p5⟩ := List.pairwise_cons.1 p2
  refine ⟨fun y hy => ?_, ?_⟩
  · rcases List.mem_append.1 hy with hy | hy
    · exact h1 y (by simp [hy])
    · rcases List.mem_append.1 hy with hy | hy
      · exact hC y hy
      · exact h1 y (by simp [hy])
  · refine List.pairwise_append.2 ⟨p1, List.pairwise_append.2 ⟨hCp, p5, fun y hy z hz => ?_⟩, fun y hy z hz => ?_⟩
    · have := hhi y hy
      have := p4 z hz
      omega
    · rcases List.mem_append.1 hz with hz | hz
      · have := hlo z hz
        have := p3 y hy x (by simp)
        omega
      · exact p3 y hy z (by simp [hz])
def E.slot (x : E) (s : Int) : E := ⟨x.a, x.n, s⟩
theorem set_valid (l : List E) (k : Nat) (h : k < l.length) (s : Int) (hv : validB l = true) (h0 : 0 ≤ s) (h1 : s + l[k].n ≤ 65536) : validB (l.set k (l[k].slot s)) = true := by
  rw [set_split l k h]
  have hv' := hv
  rw [split_at l k h] at hv'
  have hk := (okB_iff _).1 (validB_ok hv l[k] (List.getElem_mem h))
  have := valid_swap (l.take k) (l.drop (k + 1)) l[k] [l[k].slot s] (fun y hy => by
    simp at hy; subst hy; rw [okB_iff]; simp only [E.slot]; omega) (by simp) (fun y hy => by simp at hy; subst hy; simp [E.slot]) (fun y hy => by simp at hy; subst hy; simp [E.slot]) hv'
  simpa using this
theorem set_other (l : List E) (k : Nat) (h : k < l.length) (s : Int) (hv : validB l = true) (h0 : 0 ≤ s) (h1 : s + l[k].n ≤ 65536) (hne : s ≠ l[k].s) : sameB (joinL l) (joinL (l.set k (l[k].slot s))) = false := by
  cases hs : sameB (joinL l) (joinL (l.set k (l[k].slot s))) with
  | false => rfl
  | true =>
    have e := (sameB_iff _ _).1 hs
    have hv2 := set_valid l k h s hv h0 h1
    have hk := (okB_iff _).1 (validB_ok hv l[k] (List.getElem_mem h))
    have a1 := slotAt_join l l[k].a (validB_ok hv)
    have a2 := slotAt_join _ l[k].a (validB_ok hv2)
    rw [slotAt_mem l hv l[k] (List.getElem_mem h) l[k].a (by rw [hits_iff]; omega)] at a1
    rw [slotAt_mem _ hv2 (l[k].slot s) (List.mem_set h _) l[k].a (by rw [hits_iff]; simp only [E.slot]; omega), ← e, a1] at a2
    simp only [E.slot, Option.some.injEq] at a2
    omega

/-! ### An extent divided -/
def E.fst (x : E) (n : Int) : E := ⟨x.a, n, x.s⟩
def E.snd (x : E) (n : Int) : E := ⟨x.a + n, x.n - n, x.s + n⟩
theorem push_divided (R : List E) (x : E) (n : Int) : pushL (pushL R (x.fst n)) (x.snd n) = pushL R x := by
  have hm : meets (x.fst n) (x.snd n) = true := by simp [meets, E.fst, E.snd]
  have hl : (x.fst n).longer (x.snd n).n = x := E.ext' rfl (by simp only [E.fst, E.snd, E.longer]; omega) rfl
  by_cases h : R = []
  · subst h
    rw [pushL_nil, pushL_nil]
    have := pushL_yes [] (x.fst n) (x.snd n) hm
    rw [hl] at this
    exact this
  · obtain ⟨R', y, rfl⟩ := snoc_of R h
    have e : meets y (x.fst n) = meets y x := rfl
    cases hy : meets y x
    · rw [pushL_no R' y x hy, pushL_no R' y _ (e.trans hy), pushL_yes _ _ _ hm, hl]
    · rw [pushL_yes R' y x hy, pushL_yes R' y _ (e.trans hy)]
      simp only [meets, Bool.and_eq_true, decide_eq_true_eq] at hy
      have hm2 : meets (y.longer (x.fst n).n) (x.snd n) = true := by
        rw [meets_iff]; simp only [E.longer, E.fst, E.snd]; omega
      rw [pushL_yes _ _ _ hm2]
      congr 2
      simp only [E.longer, E.fst, E.snd]
      congr 1
      omega
theorem divided_join (l : List E) (k : Nat) (h : k < l.length) (n : Int) : joinL (l.take k ++ ([l[k].fst n, l[k].snd n] ++ l.drop (k + 1))) = joinL l := by
  have e : joinL l = joinL (l.take k ++ l[k] :: l.drop (k + 1)) := by rw [← split_at l k h]
  rw [e]
  unfold joinL
  rw [List.foldl_append, List.foldl_append, List.foldl_append]
  simp only [List.foldl_cons, List.foldl_nil]
  rw [push_divided]
theorem divided_valid (l : List E) (k : Nat) (h : k < l.length) (n : Int) (hv : validB l = true) (h0 : 0 < n) (h1 : n < l[k].n) : validB (l.take k ++ ([l[k].fst n, l[k].snd n] ++ l.drop (k + 1))) = true := by
  have hv' := hv
  rw [split_at l k h] at hv'
  have hk := (okB_iff _).1 (validB_ok hv l[k] (List.getElem_mem h))
  refine valid_swap (l.take k) (l.drop (k + 1)) l[k] _ ?_ ?_ ?_ ?_ hv'
  · intro y hy
    simp at hy
    rcases hy with rfl | rfl <;> (rw [okB_iff]; simp only [E.fst, E.snd]; omega)
  · simp [E.fst, E.snd]
  · intro y hy
    simp at hy
    rcases hy with rfl | rfl <;> (simp only [E.fst, E.snd]; omega)
  · intro y hy
    simp at hy
    rcases hy with rfl | rfl <;> (simp only [E.fst, E.snd]; omega)

end Go.Proofs.Ytolhajkbamhdgaa
