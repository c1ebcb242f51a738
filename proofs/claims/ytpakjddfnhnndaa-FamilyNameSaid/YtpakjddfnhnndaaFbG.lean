/-
  tegularef36: Counts.
  Conditions: as each theorem says.
-/
import Derived.Test.YtpakjddfnhnndaaFbF
import Derived.Test.YtpakjddfnhnndaaGG
namespace Go.Proofs.Ytpakjddfnhnndaa
set_option linter.unusedSimpArgs false
set_option linter.unusedVariables false
set_option maxRecDepth 100000
open Go.RowKit

/-- What a family of the reference needs for its counts. -/
structure FitR (N : Nat) (ts : List RT) : Prop where
  hN : N ≤ 65536
  few : ts.length ≤ 33
  perm : ∀ x ∈ ts, permB N x.l = true
  wf : ∀ x ∈ ts, wfL x.l
  short : ∀ x ∈ ts, x.l.length ≤ 65536
abbrev cntsR (N : Nat) (ts : List RT) : List Int := cntsV N (ts.map RT.vol)
theorem cntsR_take (N : Nat) (ts : List RT) (k : Nat) (h : k < ts.length) : cntsR N (ts.take (k + 1)) = chgL (cntsR N (ts.take k)) ts[k].l 1 := by
  have := cntsV_take N (ts.map RT.vol) k (by simpa using h)
  rw [← List.map_take, ← List.map_take] at this
  refine (show cntsR N (ts.take (k + 1)) = _ from this).trans ?_
  rw [List.getElem_map]
  rfl
theorem FitR.range {N : Nat} {ts : List RT} (h : FitR N ts) (k : Nat) : inR 0 1000000000 (cntsR N (ts.take k)) := by
  have h0 : (List.replicate N (0 : Int)).length = N := by simp
  have : ∀ k, k ≤ ts.length → inR 0 (65536 * k) (cntsR N (ts.take k)) := by
    intro k
    induction k with
    | zero => intro _; simp only [cntsR, List.take_zero, List.map_nil, cntsV, List.foldl_nil]; intro x hx; rw [List.mem_replicate] at hx; omega
    | succ k ih =>
      intro hk
      rw [cntsR_take N ts k (by omega)]
      have h1 := chg_up (C := cntsR N (ts.take k)) (l := ts[k].l) (by rw [cntsV_length]; exact h.perm _ (List.getElem_mem (by omega))) (ih (by omega))
      have := h.short _ (List.getElem_mem (show k < ts.length by omega))
      exact inR_mono h1 (by omega) (by omega)
  have hf := h.few
  by_cases hk : k ≤ ts.length
  · exact inR_mono (this k hk) (by omega) (by omega)
  · rw [List.take_of_length_le (by omega), ← List.take_length (l := ts)]
    exact inR_mono (this ts.length (Nat.le_refl _)) (by omega) (by omega)
end Go.Proofs.Ytpakjddfnhnndaa
