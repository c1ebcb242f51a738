/-
  Chapter 35: arguments opened: [2]int, a step.
  Conditions: as each theorem says.
-/
import Derived.Test.YtolhajkbamhdgaaAlL
import Derived.Test.YtolhajkbamhdgaaTgX
namespace Go.Proofs.Ytolhajkbamhdgaa
set_option linter.unusedSimpArgs false
set_option linter.unusedVariables false
open Go.ChangeShapes Go.WideShapes Go.ChangeAt Go.RowKit Go.Deep

section
variable {H : Type} {enc : TypeId × Value → H} {w : World}
theorem pair_size64 {cs : Array Value} (h : cs.size = 2) : ∃ c0 c1, cs = #[c0, c1] := by
  obtain ⟨l⟩ := cs
  match l, h with
  | [c0, c1], _ => exact ⟨c0, c1, rfl⟩
set_option maxRecDepth 100000 in
theorem open_pair64 {r : Reach} {b0 : Nat} {v : Value} {d : DataW H} {p : List MemPlace} (hv : Value.okWide Try.prog w r b0 71 v) (h : DataW.Trod enc Try.prog w 0 (fun _ => true) true 71 v d p) :
    ∃ f n : Int, v = .agg #[.int .i64 f, .int .i64 n] ∧ (-9223372036854775808 ≤ f ∧ f ≤ 9223372036854775807) ∧ (-9223372036854775808 ≤ n ∧ n ≤ 9223372036854775807) := by
  have hce : Try.prog.cellsOf 3 = 1 := by kernel_rfl
  obtain ⟨cs, rfl, hsz, _⟩ : ∃ cs, v = .agg cs ∧ cs.size = Try.prog.cellsOf 71 ∧ Row.okWide Try.prog w r b0 71 cs := by
    simpa [Value.okWide, Try.underlying71] using hv
  rw [show Try.prog.cellsOf 71 = 2 by kernel_rfl] at hsz
  obtain ⟨c0, c1, rfl⟩ := pair_size64 hsz
  obtain ⟨fuel, hf⟩ := h
  obtain ⟨xs, m, _, _, _, hl, hel⟩ := DataW.trod_array Try.underlying71 hf
  have e0 := hel 0 (by omega)
  have e1 := hel 1 (by omega)
  rw [hce] at e0 e1
  have x0 : xs[0]? = some (xs[0]'(by omega)) := List.getElem?_eq_getElem (by omega)
  have x1 : xs[1]? = some (xs[1]'(by omega)) := List.getElem?_eq_getElem (by omega)
  obtain ⟨n0, k0, _, w0⟩ := DataW.trod_int Try.underlying3 (e0.trans x0)
  obtain ⟨n1, k1, _, w1⟩ := DataW.trod_int Try.underlying3 (e1.trans x1)
  simp [Value.cells] at k0 k1
  subst k0 k1
  exact ⟨n0, n1, rfl, bounds_i64 w0, bounds_i64 w1⟩
set_option maxRecDepth 100000 in
theorem open_step35 {r : Reach} {b0 : Nat} {v : Value} {d : DataW H} {p : List MemPlace} (hv : Value.okWide Try.prog w r b0 80 v) (h : DataW.Trod enc Try.prog w 0 (fun _ => true) true 80 v d p) :
    ∃ (x : Step35) (al : Option Addr) (cl : Nat), v = .agg #[.int .u8 x.k, .int .u8 x.n, .int .u8 x.h, .slice al x.l.length cl] ∧ x.l.length ≤ 9223372036854775807 ∧ (x.l.length ≤ 46912496118443 → Rd w al x.l) ∧ wfL x.l ∧ (0 ≤ x.k ∧ x.k ≤ 255) ∧ (0 ≤ x.n ∧ x.n ≤ 255) ∧ (0 ≤ x.h ∧ x.h ≤ 255) := by
  obtain ⟨v0, v1, v2, v3, y0, y1, y2, y3, n, rfl, _, _, t0, t1, t2, t3⟩ := Joins.open_agg4 Try.underlying80 (by kernel_rfl) (by kernel_rfl) hv h
  obtain ⟨n0, e0, _, w0⟩ := DataW.trod_int Try.underlying5 t0
  obtain ⟨n1, e1, _, w1⟩ := DataW.trod_int Try.underlying5 t1
  obtain ⟨n2, e2, _, w2⟩ := DataW.trod_int Try.underlying5 t2
  simp at e0 e1 e2
  subst e0 e1 e2
  obtain ⟨al, ln, cl, rfl⟩ : ∃ al ln cl, v3 = .slice al ln cl := by
    rcases open_slice Try.underlying32 t3 with ⟨hcs, _⟩ | ⟨a1, l1, c1, _, _, _, _, hcs, _⟩
    · simp at hcs; exact ⟨_, _, _, hcs⟩
    · simp at hcs; exact ⟨_, _, _, hcs⟩
  obtain ⟨l, rfl, hl1, hl2, hl3⟩ := open_extents t3
  exact ⟨⟨n0, n1, n2, l⟩, al, cl, rfl, hl1.1, hl2, hl3, bounds_u8 w0, bounds_u8 w1, bounds_u8 w2⟩
end
end Go.Proofs.Ytolhajkbamhdgaa
