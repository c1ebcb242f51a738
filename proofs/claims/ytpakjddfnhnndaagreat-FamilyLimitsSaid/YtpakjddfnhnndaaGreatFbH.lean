/-
  tegularef36: the list that 'with' makes (plain).
  Conditions: as each theorem says.
-/
import Derived.Test.YtpakjddfnhnndaaGreatFbF
namespace Go.Proofs.YtpakjddfnhnndaaGreat
set_option linter.unusedSimpArgs false
set_option linter.unusedVariables false
set_option maxRecDepth 100000

/-- One round of the loop of 'with'. -/
def stepR (v : RT) (s : List RT × Bool) (x : RT) : List RT × Bool :=
  let s1 := if (!s.2 && !bytesBefore x.nm v.nm) then (s.1 ++ [v], true) else s
  if x.nm = v.nm then s1 else (s1.1 ++ [x], s1.2)
def loopR (v : RT) (ts : List RT) : List RT × Bool := ts.foldl (stepR v) ([], false)
def withR (ts : List RT) (v : RT) : List RT := if (loopR v ts).2 then (loopR v ts).1 else (loopR v ts).1 ++ [v]
theorem loopR_take (v : RT) (ts : List RT) (k : Nat) (h : k < ts.length) : loopR v (ts.take (k + 1)) = stepR v (loopR v (ts.take k)) ts[k] := by
  unfold loopR
  rw [List.take_succ_eq_append_getElem h, List.foldl_append]
  rfl
def sortedR (ts : List RT) : Prop := ts.Pairwise fun a b => bytesBefore a.nm b.nm = true
def insR (v : RT) : List RT → List RT
  | [] => [v]
  | w :: r => if bytesBefore v.nm w.nm then v :: w :: r else w :: insR v r
def delR (ts : List RT) (nm : List UInt8) : List RT := ts.filter fun w => !(w.nm == nm)
theorem insR_vol (v : RT) (ts : List RT) : (insR v ts).map RT.vol = insV v.vol (ts.map RT.vol) := by
  induction ts with
  | nil => rfl
  | cons w r ih =>
    have h : (bytesBefore v.vol.nm w.vol.nm) = bytesBefore v.nm w.nm := rfl
    unfold insR
    rw [List.map_cons]
    unfold insV
    rw [h]
    by_cases hb : bytesBefore v.nm w.nm = true
    · rw [if_pos hb, if_pos hb]; rfl
    · rw [if_neg hb, if_neg hb, List.map_cons, ih]
theorem delR_vol (ts : List RT) (nm : List UInt8) : (delR ts nm).map RT.vol = delV (ts.map RT.vol) nm := by
  unfold delR delV
  rw [List.filter_map]
  rfl
/-- Behind the first volume that is not smaller, all are taken but those of the same name. -/
theorem loop_done (v : RT) : ∀ (ts : List RT) (out : List RT), ts.foldl (stepR v) (out, true) = (out ++ delR ts v.nm, true)
  | [], out => by simp [delR]
  | x :: r, out => by
    rw [List.foldl_cons]
    have : stepR v (out, true) x = (out ++ delR [x] v.nm, true) := by
      unfold stepR
      by_cases h : x.nm = v.nm
      · simp [delR, h]
      · simp [delR, h]
    rw [this, loop_done v r]
    simp [delR, List.filter_cons]
    split <;> simp
theorem loop_before (v : RT) : ∀ (ts : List RT) (out : List RT), sortedR ts →
    (let s := ts.foldl (stepR v) (out, false); if s.2 then s.1 else s.1 ++ [v]) = out ++ insR v (delR ts v.nm)
  | [], out, _ => by simp [delR, insR]
  | x :: r, out, hs => by
    have hs' := List.pairwise_cons.1 hs
    rw [List.foldl_cons]
    by_cases hb : bytesBefore x.nm v.nm = true
    · have hne : x.nm ≠ v.nm := fun e => by rw [e, WideAt.bytes_irrefl] at hb; cases hb
      have hvb : bytesBefore v.nm x.nm = false := by
        cases h : bytesBefore v.nm x.nm
        · rfl
        · have := WideShapes.bytes_trans _ _ _ hb h
          rw [WideAt.bytes_irrefl] at this; cases this
      have h1 : stepR v (out, false) x = (out ++ [x], false) := by simp [stepR, hb, hne]
      rw [h1, loop_before v r _ hs'.2]
      have h2 : delR (x :: r) v.nm = x :: delR r v.nm := by simp [delR, List.filter_cons, hne]
      rw [h2]
      simp [insR, hvb]
    · have hb' : bytesBefore x.nm v.nm = false := by simpa using hb
      have h1 : stepR v (out, false) x = ((out ++ [v]) ++ delR [x] v.nm, true) := by
        unfold stepR
        by_cases h : x.nm = v.nm
        · simp [delR, h, WideAt.bytes_irrefl]
        · simp [delR, h, hb']
      rw [h1, loop_done]
      have h3 : ∀ y ∈ delR (x :: r) v.nm, bytesBefore v.nm y.nm = true := fun y hy => by
        simp only [delR, List.mem_filter, Bool.not_eq_true', beq_eq_false_iff_ne] at hy
        obtain ⟨hm, hn⟩ := hy
        have hxy : x = y ∨ bytesBefore x.nm y.nm = true := by
          rcases List.mem_cons.1 hm with h | h
          · exact .inl h.symm
          · exact .inr (hs'.1 y h)
        refine (WideAt.bytes_total v.nm y.nm fun e => hn e.symm).resolve_right fun h => ?_
        rcases hxy with rfl | h5
        · rw [h] at hb'; cases hb'
        · have := WideShapes.bytes_trans _ _ _ h5 h
          rw [this] at hb'; cases hb'
      have h4 : insR v (delR (x :: r) v.nm) = v :: delR (x :: r) v.nm := by
        cases hd : delR (x :: r) v.nm with
        | nil => rfl
        | cons y s =>
          have := h3 y (by rw [hd]; simp)
          simp [insR, this]
      rw [h4]
      simp [delR, List.filter_cons]
      split <;> simp
theorem withR_is (ts : List RT) (v : RT) (h : sortedR ts) : withR ts v = insR v (delR ts v.nm) := by
  have := loop_before v ts [] h
  exact this.trans (List.nil_append _)
theorem withR_vol (ts : List RT) (v : RT) (h : sortedR ts) : (withR ts v).map RT.vol = putV (ts.map RT.vol) v.vol := by
  rw [withR_is ts v h, insR_vol, delR_vol]
  rfl
theorem loopR_length (v : RT) (ts : List RT) : (loopR v ts).1.length ≤ ts.length + 1 := by
  have : ∀ (ts : List RT) (s : List RT × Bool), (ts.foldl (stepR v) s).1.length + (if (ts.foldl (stepR v) s).2 then 0 else 1) ≤ s.1.length + ts.length + (if s.2 then 0 else 1) := by
    intro ts
    induction ts with
    | nil => intro s; exact Nat.le_refl _
    | cons x r ih =>
      intro s
      rw [List.foldl_cons]
      refine Nat.le_trans (ih _) ?_
      obtain ⟨o, d⟩ := s
      unfold stepR
      cases d <;> cases bytesBefore x.nm v.nm <;> by_cases h : x.nm = v.nm <;> simp [h] <;> omega
  have h := this ts ([], false)
  simp only [loopR]
  simp at h
  omega
theorem mem_loopR {v : RT} {ts : List RT} {x : RT} (h : x ∈ (loopR v ts).1) : x = v ∨ x ∈ ts := by
  have : ∀ (ts : List RT) (s : List RT × Bool), x ∈ (ts.foldl (stepR v) s).1 → x ∈ s.1 ∨ x = v ∨ x ∈ ts := by
    intro ts
    induction ts with
    | nil => intro s h; exact .inl h
    | cons y r ih =>
      intro s h
      rw [List.foldl_cons] at h
      rcases ih _ h with h | h | h
      · obtain ⟨o, d⟩ := s
        unfold stepR at h
        split at h <;> split at h <;> simp at h ⊢ <;> grind
      · exact .inr (.inl h)
      · exact .inr (.inr (List.mem_cons_of_mem _ h))
  rcases this ts ([], false) h with h | h
  · simp at h
  · exact h
theorem mem_withR {v : RT} {ts : List RT} {x : RT} (h : x ∈ withR ts v) : x = v ∨ x ∈ ts := by
  unfold withR at h
  split at h
  · exact mem_loopR h
  · rcases List.mem_append.1 h with h | h
    · exact mem_loopR h
    · exact .inl (by simpa using h)
end Go.Proofs.YtpakjddfnhnndaaGreat
