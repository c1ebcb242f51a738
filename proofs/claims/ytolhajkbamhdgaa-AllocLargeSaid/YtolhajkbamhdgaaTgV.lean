/-
  Plain mathematics: a normal form is told by the slots alone; what Put and Cut map.
-/
import Derived.Test.YtolhajkbamhdgaaTgT
namespace Go.Proofs.Ytolhajkbamhdgaa
set_option linter.unusedSimpArgs false
set_option linter.unusedVariables false

/-! ### Block by block -/
def E.cell (x : E) (i : Nat) : E := ⟨x.a + i, 1, x.s + i⟩
def E.all (x : E) : List E := (List.range x.n.toNat).map x.cell
theorem pushAll_append (R A B : List E) : pushAll R (A ++ B) = pushAll (pushAll R A) B := by simp [pushAll]
theorem pushAll_range (R : List E) (x : E) (k : Nat) : pushAll R ((List.range (k + 1)).map x.cell) = pushL R ⟨x.a, k + 1, x.s⟩ := by
  induction k with
  | zero => simp [pushAll, E.cell]
  | succ k ih =>
    rw [List.range_succ, List.map_append, pushAll_append, ih]
    have h := push_divided R ⟨x.a, ((k + 1 : Nat) : Int) + 1, x.s⟩ ((k : Int) + 1)
    have e1 : (⟨x.a, ((k + 1 : Nat) : Int) + 1, x.s⟩ : E).fst ((k : Int) + 1) = ⟨x.a, (k : Int) + 1, x.s⟩ := rfl
    have e2 : (⟨x.a, ((k + 1 : Nat) : Int) + 1, x.s⟩ : E).snd ((k : Int) + 1) = x.cell (k + 1) := E.ext' (by simp [E.snd, E.cell]) (by simp only [E.snd, E.cell]; omega) (by simp [E.snd, E.cell])
    rw [e1, e2] at h
    rw [← h]
    simp [pushAll]
theorem pushAll_all (R : List E) (x : E) (h : 1 ≤ x.n) : pushAll R x.all = pushL R x := by
  obtain ⟨k, hk⟩ : ∃ k : Nat, x.n = (k : Int) + 1 := ⟨(x.n - 1).toNat, by omega⟩
  have h1 := pushAll_range R x k
  have e1 : x.n.toNat = k + 1 := by omega
  have e2 : (⟨x.a, (k : Int) + 1, x.s⟩ : E) = x := E.ext' rfl hk.symm rfl
  rw [e2] at h1
  unfold E.all
  rw [e1]
  exact h1
theorem join_all (l : List E) : (∀ x ∈ l, okB x = true) → joinL (l.flatMap E.all) = joinL l := by
  induction l using snoc_ind with
  | h0 => intro _; rfl
  | h1 l x ih =>
    intro h
    have hx := (okB_iff x).1 (h x (by simp))
    rw [List.flatMap_append, joinL_append, ih (fun y hy => h y (List.mem_append_left _ hy)), joinL_snoc]
    have : List.flatMap E.all [x] = x.all := by simp
    rw [this]
    exact pushAll_all _ x (by omega)
theorem mem_all (l : List E) (h : validB l = true) (e : E) : e ∈ l.flatMap E.all ↔ e.n = 1 ∧ slotAt l e.a = some e.s := by
  constructor
  · intro he
    obtain ⟨x, hx, he⟩ := List.mem_flatMap.1 he
    obtain ⟨i, hi, rfl⟩ := List.mem_map.1 he
    have hi' := List.mem_range.1 hi
    refine ⟨rfl, ?_⟩
    rw [slotAt_mem l h x hx _ (by rw [hits_iff]; simp only [E.cell]; omega)]
    simp only [E.cell, Option.some.injEq]
    omega
  · rintro ⟨h1, h2⟩
    unfold slotAt at h2
    obtain ⟨x, hx, hs⟩ := Option.map_eq_some_iff.1 h2
    have hm := List.mem_of_find?_eq_some hx
    have hh := (hits_iff _ _).1 (List.find?_some hx)
    refine List.mem_flatMap.2 ⟨x, hm, List.mem_map.2 ⟨(e.a - x.a).toNat, List.mem_range.2 (by omega), ?_⟩⟩
    exact E.ext' (by simp only [E.cell]; omega) (by simp only [E.cell]; omega) (by simp only [E.cell]; omega)
theorem sorted_all (l : List E) (h : validB l = true) : (l.flatMap E.all).Pairwise (fun x y => x.a < y.a) := by
  rw [validB_iff] at h
  rw [List.pairwise_flatMap]
  refine ⟨fun x hx => ?_, h.2.imp_of_mem ?_⟩
  · unfold E.all
    rw [List.pairwise_map]
    refine (List.pairwise_lt_range).imp ?_
    intro i j hij
    simp only [E.cell]
    omega
  · intro x y hx hy hxy a ha b hb
    obtain ⟨i, hi, rfl⟩ := List.mem_map.1 ha
    obtain ⟨j, hj, rfl⟩ := List.mem_map.1 hb
    have := List.mem_range.1 hi
    simp only [E.cell]
    omega
theorem sorted_ext (A : List E) : ∀ B : List E, A.Pairwise (fun x y => x.a < y.a) → B.Pairwise (fun x y => x.a < y.a) → (∀ e, e ∈ A ↔ e ∈ B) → A = B := by
  induction A with
  | nil =>
    intro B _ _ h
    cases B with
    | nil => rfl
    | cons y B => exact absurd ((h y).2 (by simp)) (by simp)
  | cons x A ih =>
    intro B hA hB h
    cases B with
    | nil => exact absurd ((h x).1 (by simp)) (by simp)
    | cons y B =>
      obtain ⟨a1, a2⟩ := List.pairwise_cons.1 hA
      obtain ⟨b1, b2⟩ := List.pairwise_cons.1 hB
      have hxy : x = y := by
        rcases List.mem_cons.1 ((h x).1 (by simp)) with e | e
        · exact e
        · rcases List.mem_cons.1 ((h y).2 (by simp)) with e2 | e2
          · exact e2.symm
          · have := a1 y e2; have := b1 x e; omega
      subst hxy
      congr 1
      refine ih B a2 b2 fun e => ⟨fun he => ?_, fun he => ?_⟩
      · rcases List.mem_cons.1 ((h e).1 (by simp [he])) with e2 | e2
        · subst e2; have := a1 e he; omega
        · exact e2
      · rcases List.mem_cons.1 ((h e).2 (by simp [he])) with e2 | e2
        · subst e2; have := b1 e he; omega
        · exact e2
/-- Valid lists that map the same blocks to the same slots have one normal form. -/
theorem join_unique (A B : List E) (hA : validB A = true) (hB : validB B = true) (h : ∀ p, slotAt A p = slotAt B p) : joinL A = joinL B := by
  rw [← join_all A (validB_ok hA), ← join_all B (validB_ok hB)]
  congr 1
  refine sorted_ext _ _ (sorted_all A hA) (sorted_all B hB) fun e => ?_
  rw [mem_all A hA, mem_all B hB, h]

/-! ### What parts, Put, Cut map -/
theorem slotAt_none (l : List E) (p : Int) (h : ∀ x ∈ l, hits p x = false) : slotAt l p = none := by
  unfold slotAt
  rw [List.find?_eq_none.2 fun x hx => by simp [h x hx]]
  rfl
theorem slotAt_parts (l : List E) (f t p : Int) : slotAt (partsL l f t) p = if f ≤ p ∧ p < t then slotAt l p else none := by
  split
  · rename_i hp
    induction l with
    | nil => rfl
    | cons x r ih =>
      have e : slotAt (x :: r) p = (slotAt [x] p).or (slotAt r p) := slotAt_append [x] r p
      have e2 : partsL (x :: r) f t = partsL [x] f t ++ partsL r f t := by
        unfold partsL
        rw [← List.map_append, ← List.filter_append]
        rfl
      rw [e, e2, slotAt_append, ih]
      congr 1
      unfold partsL
      cases hb : partB x f t
      · simp only [List.filter_cons, hb, List.filter_nil, List.map_nil, if_false, Bool.false_eq_true]
        rw [slotAt_one]
        rw [if_neg]
        · rfl
        · rw [hits_iff]
          simp only [partB, decide_eq_false_iff_not] at hb
          omega
      · simp only [List.filter_cons, hb, List.filter_nil, List.map_nil, if_true, List.map_cons]
        rw [slotAt_one, slotAt_one]
        have e3 : hits p (partE x f t) = hits p x := by
          rw [Bool.eq_iff_iff, hits_iff, hits_iff]
          simp only [partE]
          omega
        rw [e3]
        congr 1
        simp only [partE, Option.some.injEq]
        omega
  · rename_i hp
    refine slotAt_none _ _ fun x hx => ?_
    have := parts_range l f t x hx
    cases hh : hits p x with
    | false => rfl
    | true => rw [hits_iff] at hh; omega
theorem slotAt_range (l : List E) (h : validB l = true) (p : Int) (hp : p < 0 ∨ 65536 ≤ p) : slotAt l p = none :=
  slotAt_none _ _ fun x hx => by
    have := (okB_iff x).1 (validB_ok h x hx)
    cases hh : hits p x with
    | false => rfl
    | true => rw [hits_iff] at hh; omega
theorem slotAt_cut (l : List E) (p n q : Int) (hp : withinB p n 65536 = true) (hv : validB l = true) : slotAt (cutL l p n) q = if p ≤ q ∧ q < p + n then none else slotAt l q := by
  have hp' : 0 ≤ p ∧ 0 ≤ n ∧ p ≤ 65536 ∧ n ≤ 65536 - p := by simpa [withinB] using hp
  rw [cutL_eq l p n (by omega) hv, slotAt_join _ _ (validB_ok (parts_append_valid l 0 p (p + n) 65536 hv (by omega))), slotAt_append, slotAt_parts, slotAt_parts]
  by_cases h1 : q < 0 ∨ 65536 ≤ q
  · rw [slotAt_range l hv q h1]
    simp
  · by_cases h2 : q < p
    · rw [if_pos (by omega), if_neg (by omega), if_neg (by omega)]
      simp
    · by_cases h3 : q < p + n
      · rw [if_neg (by omega), if_neg (by omega), if_pos (by omega)]
        rfl
      · rw [if_neg (by omega), if_pos (by omega), if_neg (by omega)]
        simp
theorem slotAt_in (l : List E) (p n q : Int) (hv : validB l = true) : slotAt (inL l p n) q = if p ≤ q ∧ q < p + n then slotAt l q else none := by
  rw [inL_eq, slotAt_join _ _ (validB_ok (parts_valid l p (p + n) hv)), slotAt_parts]
theorem slotAt_put (l : List E) (x : E) (q : Int) (hx : okB x = true) (hv : validB l = true) : slotAt (putL l x) q = if x.a ≤ q ∧ q < x.a + x.n then some (x.s + q - x.a) else slotAt l q := by
  have hx' := (okB_iff x).1 hx
  unfold putL
  rw [slotAt_join _ _ (validB_ok (put_valid l x hx hv)), slotAt_append, slotAt_append, slotAt_parts, slotAt_parts, slotAt_one]
  by_cases h1 : q < 0 ∨ 65536 ≤ q
  · have hh : hits q x = false := by
      cases hh : hits q x with
      | false => rfl
      | true => rw [hits_iff] at hh; omega
    rw [slotAt_range l hv q h1, if_neg (show ¬ (x.a ≤ q ∧ q < x.a + x.n) by omega), hh]
    simp
  · by_cases h2 : q < x.a
    · have hh : hits q x = false := by
        cases hh : hits q x with
        | false => rfl
        | true => rw [hits_iff] at hh; omega
      rw [if_pos (by omega), hh, if_neg (show ¬ (x.a + x.n ≤ q ∧ q < 65536) by omega), if_neg (show ¬ (x.a ≤ q ∧ q < x.a + x.n) by omega)]
      simp
    · by_cases h3 : q < x.a + x.n
      · have hh : hits q x = true := by rw [hits_iff]; omega
        rw [if_neg (by omega), hh, if_pos (show x.a ≤ q ∧ q < x.a + x.n by omega)]
        simp
      · have hh : hits q x = false := by
          cases hh : hits q x with
          | false => rfl
          | true => rw [hits_iff] at hh; omega
        rw [if_neg (show ¬ (0 ≤ q ∧ q < x.a) by omega), hh, if_pos (show x.a + x.n ≤ q ∧ q < 65536 by omega), if_neg (show ¬ (x.a ≤ q ∧ q < x.a + x.n) by omega)]
        simp
theorem putL_valid (l : List E) (x : E) (hx : okB x = true) (hv : validB l = true) : validB (putL l x) = true := join_valid _ (put_valid l x hx hv)
theorem cutL_valid (l : List E) (p n : Int) (hn : 0 ≤ n) (hv : validB l = true) : validB (cutL l p n) = true := by
  rw [cutL_eq l p n hn hv]
  exact join_valid _ (parts_append_valid l 0 p (p + n) 65536 hv (by omega))
theorem inL_valid (l : List E) (p n : Int) (hv : validB l = true) : validB (inL l p n) = true := by
  rw [inL_eq]
  exact join_valid _ (parts_valid l p (p + n) hv)
/-- A valid list is short. -/
theorem validFrom_short (l : List E) : ∀ e, 0 ≤ e → e ≤ 65536 → validFrom e l = true → (l.length : Int) + e ≤ 65536 := by
  induction l with
  | nil => intro e _ h _; simpa using h
  | cons x r ih =>
    intro e h0 _ h
    simp only [validFrom, Bool.and_eq_true, decide_eq_true_eq] at h
    have hx := (okB_iff x).1 h.1
    have := ih (x.a + x.n) (by omega) (by omega) h.2.2
    simp only [List.length_cons]
    omega
theorem valid_short {l : List E} (h : validB l = true) : l.length ≤ 65536 := by
  have := validFrom_short l 0 (by omega) (by omega) h
  omega

/-! ### Putting what was removed back again -/
theorem in_put (l : List E) (x : E) (hx : okB x = true) (hv : validB l = true) : inL (putL l x) x.a x.n = [x] := by
  have h1 : validB [x] = true := by rw [validB_iff]; exact ⟨fun y hy => by simp at hy; subst hy; exact hx, by simp⟩
  have hp := putL_valid l x hx hv
  have e : joinL [x] = [x] := rfl
  rw [inL_eq, ← e]
  refine join_unique _ _ (parts_valid _ _ _ hp) h1 fun q => ?_
  rw [slotAt_parts, slotAt_put l x q hx hv, slotAt_one]
  by_cases h : x.a ≤ q ∧ q < x.a + x.n
  · rw [if_pos h, if_pos h, if_pos ((hits_iff q x).2 h)]
  · rw [if_neg h, if_neg (fun c => h ((hits_iff q x).1 c))]
def putAll (o : List E) (R : List E) : List E := R.foldl putL o
theorem putAll_take (o R : List E) (k : Nat) (h : k < R.length) : putAll o (R.take (k + 1)) = putL (putAll o (R.take k)) R[k] := by
  unfold putAll; rw [List.take_succ_eq_append_getElem h, List.foldl_append]; rfl
theorem putAll_facts (o : List E) (ho : validB o = true) (hn : joinL o = o) (R : List E) : validB R = true → validB (putAll o R) = true ∧ joinL (putAll o R) = putAll o R ∧ ∀ q, slotAt (putAll o R) q = (slotAt R q).or (slotAt o q) := by
  induction R using snoc_ind with
  | h0 => intro _; exact ⟨ho, hn, fun q => rfl⟩
  | h1 R x ih =>
    intro hR
    have hxo : okB x = true := validB_ok hR x (by simp)
    have hRR : validB R = true := by
      have := validB_mono _ R.length hR
      rw [List.take_left] at this
      exact this
    obtain ⟨i1, i2, i3⟩ := ih hRR
    have e : putAll o (R ++ [x]) = putL (putAll o R) x := by simp [putAll]
    rw [e]
    refine ⟨putL_valid _ _ hxo i1, joinL_join _, fun q => ?_⟩
    rw [slotAt_put _ _ _ hxo i1, i3]
    by_cases h : x.a ≤ q ∧ q < x.a + x.n
    · rw [if_pos h, slotAt_mem _ hR x (by simp) q ((hits_iff q x).2 h)]
      rfl
    · rw [if_neg h, slotAt_append, slotAt_one, if_neg (fun c => h ((hits_iff q x).1 c))]
      simp
theorem restores (l : List E) (x : E) (hx : okB x = true) (hv : validB l = true) : putAll (cutL (putL l x) x.a x.n) (inL l x.a x.n) = joinL l := by
  have hx' := (okB_iff x).1 hx
  have hp := putL_valid l x hx hv
  have hw : withinB x.a x.n 65536 = true := by simp [withinB]; omega
  have hc := cutL_valid (putL l x) x.a x.n (by omega) hp
  have hcn : joinL (cutL (putL l x) x.a x.n) = cutL (putL l x) x.a x.n := by
    rw [cutL_eq _ _ _ (by omega) hp]
    exact joinL_join _
  obtain ⟨f1, f2, f3⟩ := putAll_facts _ hc hcn (inL l x.a x.n) (inL_valid l x.a x.n hv)
  rw [← f2]
  refine join_unique _ _ f1 hv fun q => ?_
  rw [f3, slotAt_in _ _ _ _ hv, slotAt_cut _ _ _ _ hw hp, slotAt_put _ _ _ hx hv]
  by_cases h : x.a ≤ q ∧ q < x.a + x.n
  · rw [if_pos h, if_pos h]; simp
  · rw [if_neg h, if_neg h, if_neg h]; simp
end Go.Proofs.Ytolhajkbamhdgaa
