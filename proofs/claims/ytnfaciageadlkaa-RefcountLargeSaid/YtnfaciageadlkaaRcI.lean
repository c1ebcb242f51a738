/-
  The statements' helpers of chapter 34: run, few, same; scripts opened.
  Conditions: as each theorem says.
-/
import Derived.Test.YtnfaciageadlkaaRcH
import Derived.Test.YtnfaciageadlkaaGG
import Derived.Test.YtnfaciageadlkaaGB
namespace Go.Proofs.Ytnfaciageadlkaa
set_option linter.unusedSimpArgs false
set_option linter.unusedVariables false
set_option maxRecDepth 100000
open Go.ChangeShapes Go.WideShapes Go.ChangeAt Go.RowKit Go.Deep

/-! ### Scripts -/
structure StepAt (w : World) (b o k : Nat) (x : Bool × List E) : Prop where
  d : w.cell? ⟨b, o + k * 2, none⟩ = some (.bool x.1)
  l : ∃ al cl, w.cell? ⟨b, o + k * 2 + 1, none⟩ = some (.slice al x.2.length cl) ∧ x.2.length ≤ 9223372036854775807 ∧ (x.2.length ≤ 46912496118443 → Rd w al x.2) ∧ wfL x.2
/-- The slice 'a, length' reads as a script. -/
def RdS (w : World) (a : Option Addr) (S : List (Bool × List E)) : Prop :=
  S.length ≤ 9223372036854775807 ∧ (S = [] ∨ ∃ b o, a = some ⟨b, o, none⟩ ∧ ∀ k x, S[k]? = some x → StepAt w b o k x)
theorem StepAt.keep {w w' : World} (h : Below w.heap.size w w') {b o k : Nat} {x : Bool × List E} (ha : StepAt w b o k x) : StepAt w' b o k x :=
  ⟨h.keep ha.d, by obtain ⟨al, cl, h1, h2, h3, h4⟩ := ha.l; exact ⟨al, cl, h.keep h1, h2, fun hb => (h3 hb).keep h, h4⟩⟩
theorem RdS.keep {w w' : World} (h : Below w.heap.size w w') {a : Option Addr} {S : List (Bool × List E)} (hr : RdS w a S) : RdS w' a S :=
  ⟨hr.1, hr.2.imp id fun ⟨b, o, ha, hat⟩ => ⟨b, o, ha, fun k x hk => (hat k x hk).keep h⟩⟩
theorem RdS.at {w : World} {a : Option Addr} {S : List (Bool × List E)} (hr : RdS w a S) (h : 0 < S.length) : ∃ b o, a = some ⟨b, o, none⟩ ∧ ∀ k x, S[k]? = some x → StepAt w b o k x :=
  hr.2.resolve_left (by intro e; rw [e] at h; simp at h)
theorem list_of' {α : Type} {P : Nat → α → Prop} (n : Nat) (h : ∀ i, i < n → ∃ x, P i x) : ∃ l : List α, l.length = n ∧ ∀ i x, l[i]? = some x → P i x := by
  induction n with
  | zero => exact ⟨[], rfl, fun i x hx => by simp at hx⟩
  | succ n ih =>
    obtain ⟨l, hl, hp⟩ := ih fun i hi => h i (by omega)
    obtain ⟨y, hy⟩ := h n (by omega)
    refine ⟨l ++ [y], by simp [hl], fun i x hx => ?_⟩
    by_cases hi : i < n
    · rw [List.getElem?_append_left (by omega)] at hx
      exact hp i x hx
    · have hlt := (List.getElem?_eq_some_iff.1 hx).1
      simp [hl] at hlt
      obtain rfl : i = n := by omega
      rw [List.getElem?_append_right (by omega), hl] at hx
      simp at hx
      rw [← hx]
      exact hy
section
variable {H : Type} {enc : TypeId × Value → H} {w : World}
end

def fewB (S : List (Bool × List E)) : Bool := S.all fun x => decide (x.2.length ≤ 8)
theorem fewB_take (S : List (Bool × List E)) (k : Nat) (h : k < S.length) : fewB (S.take (k + 1)) = (fewB (S.take k) && decide (S[k].2.length ≤ 8)) := by
  rw [List.take_succ_eq_append_getElem h]; simp only [fewB, List.all_append, List.all_cons, List.all_nil, Bool.and_true]
theorem fewB_bad (S : List (Bool × List E)) (k : Nat) (h : k < S.length) (hx : 8 < S[k].2.length) : fewB S = false := by
  cases hp : fewB S
  · rfl
  · have := of_decide_eq_true (List.all_eq_true.1 hp _ (List.getElem_mem h))
    omega
theorem fewB_get {S : List (Bool × List E)} (h : fewB S = true) {k : Nat} (hk : k < S.length) : S[k].2.length ≤ 8 := of_decide_eq_true (List.all_eq_true.1 h _ (List.getElem_mem hk))
def FewPost (S : List (Bool × List E)) (w : World) (e : Ending) (w' : World) : Prop := e = .returned (.bool (fewB S && decide (S.length ≤ 20))) ∧ Below w.heap.size w w'

end Go.Proofs.Ytnfaciageadlkaa
