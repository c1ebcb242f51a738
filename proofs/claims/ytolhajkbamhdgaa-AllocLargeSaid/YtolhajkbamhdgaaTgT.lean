/-
  Plain mathematics: what Put leaves.
-/
import Derived.Test.YtolhajkbamhdgaaTgS
namespace Go.Proofs.Ytolhajkbamhdgaa
set_option linter.unusedSimpArgs false
set_option linter.unusedVariables false

/-- Pushing extents one after another. -/
def pushAll (R l : List E) : List E := l.foldl pushL R
theorem joinL_append (A B : List E) : joinL (A ++ B) = pushAll (joinL A) B := by simp [joinL, pushAll]
theorem push_longer (R : List E) (y b : E) (h : meets y b = true) : pushL (pushL R y) b = pushL R (y.longer b.n) := by
  rw [meets_iff] at h
  have h1 : (y.longer b.n).fst y.n = y := rfl
  have h2 : (y.longer b.n).snd y.n = b := E.ext' (by simp only [E.snd, E.longer]; omega) (by simp only [E.snd, E.longer]; omega) (by simp only [E.snd, E.longer]; omega)
  have := push_divided R (y.longer b.n) y.n
  rw [h1, h2] at this
  exact this
theorem pushAll_join (R B : List E) : pushAll R (joinL B) = pushAll R B := by
  induction B using snoc_ind with
  | h0 => rfl
  | h1 B b ih =>
    have e : pushAll R (B ++ [b]) = pushL (pushAll R B) b := by simp [pushAll]
    rw [e, joinL_snoc]
    by_cases h : joinL B = []
    · rw [h] at ih ⊢
      rw [← ih]; rfl
    · obtain ⟨C, y, hc⟩ := snoc_of _ h
      rw [hc] at ih ⊢
      have e2 : pushAll R (C ++ [y]) = pushL (pushAll R C) y := by simp [pushAll]
      rw [e2] at ih
      cases hm : meets y b
      · rw [pushL_no _ _ _ hm, ← ih]
        simp [pushAll]
      · rw [pushL_yes _ _ _ hm, ← ih, push_longer _ _ _ hm]
        simp [pushAll]
theorem joinL_join (B : List E) : joinL (joinL B) = joinL B := pushAll_join [] B
/-- A valid list stays valid when it is joined, its blocks stay where they were. -/
theorem join_range (l : List E) (lo hi : Int) : (∀ x ∈ l, 0 ≤ x.n) → (∀ x ∈ l, lo ≤ x.a ∧ x.a + x.n ≤ hi) → ∀ x ∈ joinL l, lo ≤ x.a ∧ x.a + x.n ≤ hi := by
  induction l using snoc_ind with
  | h0 => intro _ _ x hx; simp [joinL] at hx
  | h1 l x ih =>
    intro hn h y hy
    have ih' := ih (fun z hz => hn z (List.mem_append_left _ hz)) (fun z hz => h z (List.mem_append_left _ hz))
    rw [joinL_snoc] at hy
    by_cases h0 : joinL l = []
    · rw [h0, pushL_nil] at hy
      simp at hy; subst hy
      exact h y (by simp)
    · obtain ⟨C, z, hc⟩ := snoc_of _ h0
      rw [hc] at hy ih'
      cases hm : meets z x
      · rw [pushL_no _ _ _ hm] at hy
        rcases List.mem_append.1 hy with hy | hy
        · exact ih' y hy
        · simp at hy; subst hy; exact h y (by simp)
      · rw [pushL_yes _ _ _ hm] at hy
        rcases List.mem_append.1 hy with hy | hy
        · exact ih' y (List.mem_append_left _ hy)
        · simp at hy; subst hy
          have h1 := ih' z (by simp)
          have h2 := h x (by simp)
          rw [meets_iff] at hm
          simp only [E.longer]
          omega
theorem push_valid (R : List E) (x : E) (h : validB (R ++ [x]) = true) : validB (pushL R x) = true := by
  by_cases h0 : R = []
  · subst h0; exact h
  · obtain ⟨C, y, rfl⟩ := snoc_of _ h0
    cases hm : meets y x
    · rw [pushL_no _ _ _ hm]; exact h
    · rw [pushL_yes _ _ _ hm]
      have hok := validB_ok h
      have hy := (okB_iff y).1 (hok y (by simp))
      have hx := (okB_iff x).1 (hok x (by simp))
      rw [validB_iff] at h ⊢
      obtain ⟨h1, h2⟩ := h
      rw [meets_iff] at hm
      refine ⟨fun z hz => ?_, ?_⟩
      · rcases List.mem_append.1 hz with hz | hz
        · exact h1 z (by simp [hz])
        · simp at hz; subst hz; rw [okB_iff]; simp only [E.longer]; omega
      · have p := List.pairwise_append.1 h2
        have q := List.pairwise_append.1 p.1
        refine List.pairwise_append.2 ⟨q.1, by simp, fun z hz w hw => ?_⟩
        simp at hw; subst hw
        exact q.2.2 z hz y (by simp)
theorem join_append_valid (A B : List E) : validB (A ++ B) = true → validB (joinL A ++ B) = true := by
  induction A using snoc_ind generalizing B with
  | h0 => exact id
  | h1 A a ih =>
    intro h
    rw [joinL_snoc]
    have h1 := ih ([a] ++ B) (by simpa using h)
    have h2 : validB ((joinL A ++ [a]) ++ B) = true := by simpa using h1
    by_cases h0 : joinL A = []
    · rw [h0] at h2 ⊢; exact h2
    · obtain ⟨C, y, hc⟩ := snoc_of _ h0
      rw [hc] at h2 ⊢
      cases hm : meets y a
      · rw [pushL_no _ _ _ hm]; exact h2
      · rw [pushL_yes _ _ _ hm]
        have hv : validB (C ++ [y] ++ [a]) = true := by
          have := validB_mono _ (C ++ [y] ++ [a]).length h2
          rw [List.take_left] at this
          exact this
        have hpv := push_valid (C ++ [y]) a hv
        rw [pushL_yes _ _ _ hm] at hpv
        rw [validB_iff] at h2 hpv ⊢
        have p := List.pairwise_append.1 h2.2
        refine ⟨fun z hz => ?_, List.pairwise_append.2 ⟨hpv.2, p.2.1, fun z hz w hw => ?_⟩⟩
        · rcases List.mem_append.1 hz with hz | hz
          · exact hpv.1 z hz
          · exact h2.1 z (List.mem_append_right _ hz)
        · rcases List.mem_append.1 hz with hz | hz
          · exact p.2.2 z (by simp [hz]) w hw
          · simp at hz; subst hz
            have := p.2.2 a (by simp) w hw
            rw [meets_iff] at hm
            simp only [E.longer]
            omega
theorem join_valid (l : List E) (h : validB l = true) : validB (joinL l) = true := by
  have := join_append_valid l [] (by simpa using h)
  simpa using this
/-- Two lists with a gap between them are joined apart. -/
theorem pushAll_apart (R l : List E) (hR : ∀ y ∈ R, ∀ x ∈ l, y.a + y.n < x.a) : pushAll R l = R ++ joinL l := by
  induction l using snoc_ind with
  | h0 => simp [pushAll, joinL]
  | h1 l x ih =>
    have e : pushAll R (l ++ [x]) = pushL (pushAll R l) x := by simp [pushAll]
    rw [e, joinL_snoc, ih fun y hy z hz => hR y hy z (List.mem_append_left _ hz)]
    by_cases h0 : joinL l = []
    · rw [h0, pushL_nil, List.append_nil]
      by_cases hr : R = []
      · subst hr; rfl
      · obtain ⟨C, y, rfl⟩ := snoc_of R hr
        refine pushL_no _ _ _ ?_
        have := hR y (by simp) x (by simp)
        cases hm : meets y x with
        | false => rfl
        | true => rw [meets_iff] at hm; omega
    · obtain ⟨C, y, hc⟩ := snoc_of _ h0
      rw [hc, ← List.append_assoc]
      cases hm : meets y x
      · rw [pushL_no _ _ _ hm, pushL_no _ _ _ hm, ← List.append_assoc, ← List.append_assoc]
      · rw [pushL_yes _ _ _ hm, pushL_yes _ _ _ hm, ← List.append_assoc]
/-- What Put leaves, and where the new extent goes. -/
def putL (l : List E) (x : E) : List E := joinL (partsL l 0 x.a ++ ([x] ++ partsL l (x.a + x.n) 65536))
def idxP (l : List E) (p : Int) : Nat := (l.findIdx? fun y => decide (p < y.a)).getD l.length
def insertAt (l : List E) (i : Nat) (x : E) : List E := l.take i ++ ([x] ++ l.drop i)
theorem put_cut (l : List E) (x : E) (hx : 0 < x.n) (hv : validB l = true) :
    cutL l x.a x.n = joinL (partsL l 0 x.a) ++ joinL (partsL l (x.a + x.n) 65536) := by
  rw [cutL_eq l x.a x.n (by omega) hv, joinL_append]
  refine pushAll_apart _ _ fun y hy z hz => ?_
  have h1 := join_range (partsL l 0 x.a) 0 x.a (fun w hw => by have := (okB_iff w).1 (partsL_ok l 0 x.a (validB_ok hv) w hw); omega) (parts_range l 0 x.a) y hy
  have h2 := parts_range l (x.a + x.n) 65536 z hz
  omega
theorem findIdx_split (A B : List E) (f : E → Bool) (hA : ∀ x ∈ A, f x = false) (hB : ∀ x ∈ B, f x = true) : ((A ++ B).findIdx? f).getD (A ++ B).length = A.length := by
  rw [List.findIdx?_append, List.findIdx?_eq_none_iff.2 hA]
  cases B with
  | nil => simp
  | cons b B => simp [List.findIdx?_cons, hB b (by simp)]
theorem put_insert (l : List E) (x : E) (hx : okB x = true) (hv : validB l = true) :
    idxP (cutL l x.a x.n) x.a ≤ (cutL l x.a x.n).length ∧ validB (insertAt (cutL l x.a x.n) (idxP (cutL l x.a x.n) x.a) x) = true ∧ joinL (insertAt (cutL l x.a x.n) (idxP (cutL l x.a x.n) x.a) x) = putL l x := by
  have hx' := (okB_iff x).1 hx
  have hok := validB_ok hv
  have nn1 : ∀ w ∈ partsL l 0 x.a, 0 ≤ w.n := fun w hw => by have := (okB_iff w).1 (partsL_ok l 0 x.a hok w hw); omega
  have nn2 : ∀ w ∈ partsL l (x.a + x.n) 65536, 0 ≤ w.n := fun w hw => by have := (okB_iff w).1 (partsL_ok l (x.a + x.n) 65536 hok w hw); omega
  have r1 := join_range _ 0 x.a nn1 (parts_range l 0 x.a)
  have r2 := join_range _ (x.a + x.n) 65536 nn2 (parts_range l (x.a + x.n) 65536)
  have k1 := joinL_ok _ (partsL_ok l 0 x.a hok)
  have k2 := joinL_ok _ (partsL_ok l (x.a + x.n) 65536 hok)
  have hc := put_cut l x (by omega) hv
  have hi : idxP (cutL l x.a x.n) x.a = (joinL (partsL l 0 x.a)).length := by
    unfold idxP
    rw [hc]
    refine findIdx_split _ _ _ (fun y hy => ?_) (fun y hy => ?_)
    · have := r1 y hy; have := (okB_iff y).1 (k1 y hy); simp; omega
    · have := r2 y hy; simp; omega
  have hins : insertAt (cutL l x.a x.n) (idxP (cutL l x.a x.n) x.a) x = joinL (partsL l 0 x.a) ++ ([x] ++ joinL (partsL l (x.a + x.n) 65536)) := by
    unfold insertAt
    rw [hi, hc, List.take_left, List.drop_left]
  refine ⟨by rw [hi, hc]; simp, ?_, ?_⟩
  · rw [hins, validB_iff]
    have v1 := (validB_iff _).1 (join_valid _ (parts_valid l 0 x.a hv))
    have v2 := (validB_iff _).1 (join_valid _ (parts_valid l (x.a + x.n) 65536 hv))
    refine ⟨fun y hy => ?_, List.pairwise_append.2 ⟨v1.2, List.pairwise_append.2 ⟨by simp, v2.2, fun y hy z hz => ?_⟩, fun y hy z hz => ?_⟩⟩
    · rcases List.mem_append.1 hy with hy | hy
      · exact v1.1 y hy
      · rcases List.mem_append.1 hy with hy | hy
        · simp at hy; subst hy; exact hx
        · exact v2.1 y hy
    · simp at hy; subst hy
      have := r2 z hz; omega
    · have a1 := r1 y hy
      rcases List.mem_append.1 hz with hz | hz
      · simp at hz; subst hz; omega
      · have := r2 z hz; omega
  · rw [hins, joinL_append, joinL_join, putL, joinL_append]
    show pushAll (joinL (partsL l 0 x.a)) ([x] ++ joinL _) = pushAll (joinL (partsL l 0 x.a)) ([x] ++ partsL l (x.a + x.n) 65536)
    have e : ∀ R M : List E, pushAll R ([x] ++ M) = pushAll (pushL R x) M := fun R M => by simp [pushAll]
    rw [e, e, pushAll_join]
theorem put_valid (l : List E) (x : E) (hx : okB x = true) (hv : validB l = true) : validB (partsL l 0 x.a ++ ([x] ++ partsL l (x.a + x.n) 65536)) = true := by
  have hx' := (okB_iff x).1 hx
  rw [validB_iff]
  have v1 := (validB_iff _).1 (parts_valid l 0 x.a hv)
  have v2 := (validB_iff _).1 (parts_valid l (x.a + x.n) 65536 hv)
  have r1 := parts_range l 0 x.a
  have r2 := parts_range l (x.a + x.n) 65536
  refine ⟨fun y hy => ?_, List.pairwise_append.2 ⟨v1.2, List.pairwise_append.2 ⟨by simp, v2.2, fun y hy z hz => ?_⟩, fun y hy z hz => ?_⟩⟩
  · rcases List.mem_append.1 hy with hy | hy
    · exact v1.1 y hy
    · rcases List.mem_append.1 hy with hy | hy
      · simp at hy; subst hy; exact hx
      · exact v2.1 y hy
  · simp at hy; subst hy
    have := r2 z hz; omega
  · have a1 := r1 y hy
    rcases List.mem_append.1 hz with hz | hz
    · simp at hz; subst hz; omega
    · have := r2 z hz; omega

/-- What IndexFunc returns. -/
def idxR (l : List E) (f : E → Bool) : Int := match l.findIdx? f with | some i => (i : Int) | none => -1
theorem idxR_none (l : List E) (f : E → Bool) (h : ∀ x ∈ l, f x = false) : idxR l f = -1 := by
  unfold idxR; rw [List.findIdx?_eq_none_iff.2 h]
theorem idxR_at (l : List E) (f : E → Bool) (k : Nat) (hk : k < l.length) (h : ∀ x ∈ l.take k, f x = false) (hf : f l[k] = true) : idxR l f = k := by
  unfold idxR
  have e : l.findIdx? f = (l.take k ++ l[k] :: l.drop (k + 1)).findIdx? f := by rw [← split_at l k hk]
  rw [e, List.findIdx?_append, List.findIdx?_eq_none_iff.2 h, List.findIdx?_cons, if_pos hf]
  simp only [Option.none_or, Option.map_some, List.length_take]
  omega
theorem take_succ_false (l : List E) (f : E → Bool) (k : Nat) (hk : k < l.length) (h : ∀ x ∈ l.take k, f x = false) (hf : f l[k] = false) : ∀ x ∈ l.take (k + 1), f x = false := by
  intro x hx
  rw [List.take_succ_eq_append_getElem hk] at hx
  rcases List.mem_append.1 hx with hx | hx
  · exact h x hx
  · simp at hx; rw [hx]; exact hf
theorem idxR_put (l : List E) (p : Int) : (idxR l (fun y => decide (p < y.a)) < 0 ∧ idxP l p = l.length) ∨ (idxR l (fun y => decide (p < y.a)) = (idxP l p : Int)) := by
  unfold idxR idxP
  cases l.findIdx? fun y => decide (p < y.a) with
  | none => left; simp
  | some i => right; simp

end Go.Proofs.Ytolhajkbamhdgaa
