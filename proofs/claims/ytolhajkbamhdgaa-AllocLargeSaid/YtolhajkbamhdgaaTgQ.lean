/-
  Plain mathematics: the blocks of a list, finding a block, parts of extents.
-/
import Derived.Test.YtolhajkbamhdgaaTgP
namespace Go.Proofs.Ytolhajkbamhdgaa
set_option linter.unusedSimpArgs false
set_option linter.unusedVariables false

/-! ### Blocks, Find, parts -/
def lenL (l : List E) : Int := (l.map E.n).sum
theorem lenL_take (l : List E) (k : Nat) (h : k < l.length) : lenL (l.take (k + 1)) = lenL (l.take k) + l[k].n := by
  rw [List.take_succ_eq_append_getElem h]
  unfold lenL
  rw [List.map_append, List.sum_append]
  simp
theorem lenL_bound (l : List E) (h : ∀ x ∈ l, okB x = true) : 0 ≤ lenL l ∧ lenL l ≤ 65536 * l.length := by
  induction l with
  | nil => simp [lenL]
  | cons x r ih =>
    have h1 := (okB_iff x).1 (h x (by simp))
    have h2 := ih fun y hy => h y (by simp [hy])
    have e : lenL (x :: r) = x.n + lenL r := by simp [lenL]
    rw [e]
    simp only [List.length_cons]
    omega
def hits (p : Int) (x : E) : Bool := decide (x.a ≤ p) && decide (p < x.a + x.n)
/-- The slot of a block, and whether there is one. -/
def findS (l : List E) (p : Int) : Int := ((l.find? (hits p)).map fun x => x.s + p - x.a).getD 0
def findB (l : List E) (p : Int) : Bool := (l.find? (hits p)).isSome
theorem find_take (l : List E) (p : Int) (k : Nat) (h : k < l.length) (h0 : (l.take k).find? (hits p) = none) : (hits p l[k] = false → (l.take (k + 1)).find? (hits p) = none) ∧ (hits p l[k] = true → l.find? (hits p) = some l[k]) := by
  refine ⟨fun h1 => ?_, fun h1 => ?_⟩
  · rw [List.take_succ_eq_append_getElem h, List.find?_append, h0]; simp [h1]
  · have : l.find? (hits p) = (l.take k ++ l[k] :: l.drop (k + 1)).find? (hits p) := by rw [← List.drop_eq_getElem_cons h, List.take_append_drop]
    rw [this, List.find?_append, h0, Option.none_or, List.find?_cons_of_pos h1]
/-- What Blocks and Find return. -/
def blocksV (l : List E) : Int := if validB l then lenL l else 0
def findV (l : List E) (p : Int) : Int := if validB l then findS l p else 0
def findW (l : List E) (p : Int) : Bool := validB l && findB l p
theorem blocksV_no {l : List E} (h : validB l = false) : blocksV l = 0 := by simp [blocksV, h]
theorem blocksV_yes {l : List E} (h : validB l = true) : blocksV l = lenL l := by simp [blocksV, h]
theorem findV_no {l : List E} (p : Int) (h : validB l = false) : findV l p = 0 := by simp [findV, h]
theorem findV_yes {l : List E} (p : Int) (h : validB l = true) : findV l p = findS l p := by simp [findV, h]
theorem findW_no {l : List E} (p : Int) (h : validB l = false) : findW l p = false := by simp [findW, h]
theorem findW_yes {l : List E} (p : Int) (h : validB l = true) : findW l p = findB l p := by simp [findW, h]
/-- The part of an extent between two blocks, and whether there is one. -/
def partE (x : E) (f t : Int) : E := ⟨max x.a f, min (x.a + x.n) t - max x.a f, x.s + max x.a f - x.a⟩
def partB (x : E) (f t : Int) : Bool := decide (max x.a f < min (x.a + x.n) t)
theorem partE_ok (x : E) (f t : Int) (hx : okB x = true) (hp : partB x f t = true) : okB (partE x f t) = true := by
  rw [okB_iff] at *
  simp only [partB, decide_eq_true_eq, partE] at *
  omega
def pushIf (b : Bool) (l : List E) (x : E) : List E := if b then pushL l x else l

/-- Cut: what is left, what is removed. -/
def cutStep (p n : Int) (acc : List E) (x : E) : List E := pushIf (partB x (p + n) 65536) (pushIf (partB x 0 p) acc (partE x 0 p)) (partE x (p + n) 65536)
def inStep (p n : Int) (acc : List E) (x : E) : List E := pushIf (partB x p (p + n)) acc (partE x p (p + n))
def cutL (l : List E) (p n : Int) : List E := l.foldl (cutStep p n) []
def inL (l : List E) (p n : Int) : List E := l.foldl (inStep p n) []
theorem pushIf_length (b : Bool) (l : List E) (x : E) : (pushIf b l x).length ≤ l.length + 1 := by
  unfold pushIf
  split
  · exact pushL_length l x
  · omega
theorem pushIf_ok (b : Bool) (l : List E) (x : E) (hl : ∀ y ∈ l, okB y = true) (hx : b = true → okB x = true) : ∀ y ∈ pushIf b l x, okB y = true := by
  unfold pushIf
  split
  · rename_i h; exact pushL_ok l x hl (hx h)
  · exact hl
theorem cutL_take (l : List E) (p n : Int) (k : Nat) (h : k < l.length) : cutL (l.take (k + 1)) p n = cutStep p n (cutL (l.take k) p n) l[k] := by
  unfold cutL; rw [List.take_succ_eq_append_getElem h, List.foldl_append]; rfl
theorem inL_take (l : List E) (p n : Int) (k : Nat) (h : k < l.length) : inL (l.take (k + 1)) p n = inStep p n (inL (l.take k) p n) l[k] := by
  unfold inL; rw [List.take_succ_eq_append_getElem h, List.foldl_append]; rfl
theorem cutL_facts (l : List E) (p n : Int) : (∀ x ∈ l, okB x = true) → (cutL l p n).length ≤ 2 * l.length ∧ ∀ x ∈ cutL l p n, okB x = true := by
  induction l using snoc_ind with
  | h0 => simp [cutL]
  | h1 l x ih =>
    intro h
    obtain ⟨h1, h2⟩ := ih fun y hy => h y (List.mem_append_left _ hy)
    have hx := h x (by simp)
    have e : cutL (l ++ [x]) p n = cutStep p n (cutL l p n) x := by simp [cutL]
    rw [e]
    refine ⟨?_, ?_⟩
    · unfold cutStep
      have a1 := pushIf_length (partB x 0 p) (cutL l p n) (partE x 0 p)
      have a2 := pushIf_length (partB x (p + n) 65536) (pushIf (partB x 0 p) (cutL l p n) (partE x 0 p)) (partE x (p + n) 65536)
      simp
      omega
    · exact pushIf_ok _ _ _ (pushIf_ok _ _ _ h2 fun hp => partE_ok _ _ _ hx hp) fun hp => partE_ok _ _ _ hx hp
theorem inL_facts (l : List E) (p n : Int) : (∀ x ∈ l, okB x = true) → (inL l p n).length ≤ l.length ∧ ∀ x ∈ inL l p n, okB x = true := by
  induction l using snoc_ind with
  | h0 => simp [inL]
  | h1 l x ih =>
    intro h
    obtain ⟨h1, h2⟩ := ih fun y hy => h y (List.mem_append_left _ hy)
    have hx := h x (by simp)
    have e : inL (l ++ [x]) p n = inStep p n (inL l p n) x := by simp [inL]
    rw [e]
    refine ⟨?_, ?_⟩
    · unfold inStep
      have a1 := pushIf_length (partB x p (p + n)) (inL l p n) (partE x p (p + n))
      simp
      omega
    · exact pushIf_ok _ _ _ h2 fun hp => partE_ok _ _ _ hx hp

/-- The parts of a list between two blocks. -/
def partsL (l : List E) (f t : Int) : List E := (l.filter fun x => partB x f t).map fun x => partE x f t
theorem partsL_snoc (l : List E) (x : E) (f t : Int) : partsL (l ++ [x]) f t = if partB x f t then partsL l f t ++ [partE x f t] else partsL l f t := by
  unfold partsL
  rw [List.filter_append, List.map_append]
  cases h : partB x f t <;> simp [h]
theorem partsL_take (l : List E) (f t : Int) (k : Nat) (h : k < l.length) : partsL (l.take (k + 1)) f t = if partB l[k] f t then partsL (l.take k) f t ++ [partE l[k] f t] else partsL (l.take k) f t := by
  rw [List.take_succ_eq_append_getElem h, partsL_snoc]
theorem partsL_length (l : List E) (f t : Int) : (partsL l f t).length ≤ l.length := by
  unfold partsL
  rw [List.length_map]
  exact List.length_filter_le _ _
theorem partsL_ok (l : List E) (f t : Int) (h : ∀ x ∈ l, okB x = true) : ∀ x ∈ partsL l f t, okB x = true := by
  intro x hx
  unfold partsL at hx
  obtain ⟨y, hy, rfl⟩ := List.mem_map.1 hx
  obtain ⟨h1, h2⟩ := List.mem_filter.1 hy
  exact partE_ok _ _ _ (h y h1) h2

end Go.Proofs.Ytolhajkbamhdgaa
