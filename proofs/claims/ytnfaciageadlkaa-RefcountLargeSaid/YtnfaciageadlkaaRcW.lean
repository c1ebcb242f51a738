/-
  A pair of 16-bit numbers opened.
  Conditions: as the theorem says.
-/
import Derived.Test.YtnfaciageadlkaaGB
namespace Go.Proofs.Ytnfaciageadlkaa
set_option linter.unusedSimpArgs false
set_option linter.unusedVariables false
set_option maxRecDepth 100000
open Go.RowKit

section
open Go.ChangeShapes Go.WideShapes Go.ChangeAt
variable {H : Type} {enc : TypeId × Value → H} {w : World}
theorem pair_size16 {cs : Array Value} (h : cs.size = 2) : ∃ c0 c1, cs = #[c0, c1] := by
  obtain ⟨l⟩ := cs
  match l, h with
  | [c0, c1], _ => exact ⟨c0, c1, rfl⟩
set_option maxRecDepth 100000 in
theorem open_pair16 {r : Reach} {b0 : Nat} {v : Value} {d : DataW H} {p : List MemPlace} (hv : Value.okWide Try.prog w r b0 23 v) (h : DataW.Trod enc Try.prog w 0 (fun _ => true) true 23 v d p) :
    ∃ f n : Int, v = .agg #[.int .u16 f, .int .u16 n] ∧ (0 ≤ f ∧ f ≤ 65535) ∧ (0 ≤ n ∧ n ≤ 65535) := by
  have hce : Try.prog.cellsOf 22 = 1 := by kernel_rfl
  obtain ⟨cs, rfl, hsz, _⟩ : ∃ cs, v = .agg cs ∧ cs.size = Try.prog.cellsOf 23 ∧ Row.okWide Try.prog w r b0 23 cs := by
    simpa [Value.okWide, Try.underlying23] using hv
  rw [show Try.prog.cellsOf 23 = 2 by kernel_rfl] at hsz
  obtain ⟨c0, c1, rfl⟩ := pair_size16 hsz
  obtain ⟨fuel, hf⟩ := h
  obtain ⟨xs, m, _, _, _, hl, hel⟩ := DataW.trod_array Try.underlying23 hf
  have e0 := hel 0 (by omega)
  have e1 := hel 1 (by omega)
  rw [hce] at e0 e1
  have x0 : xs[0]? = some (xs[0]'(by omega)) := List.getElem?_eq_getElem (by omega)
  have x1 : xs[1]? = some (xs[1]'(by omega)) := List.getElem?_eq_getElem (by omega)
  obtain ⟨n0, k0, _, w0⟩ := DataW.trod_int Try.underlying22 (e0.trans x0)
  obtain ⟨n1, k1, _, w1⟩ := DataW.trod_int Try.underlying22 (e1.trans x1)
  simp [Value.cells] at k0 k1
  subst k0 k1
  exact ⟨n0, n1, rfl, bounds_u16 w0, bounds_u16 w1⟩
end
end Go.Proofs.Ytnfaciageadlkaa
