/-
  The walks of the laws RefcountValues and RefcountSums.
  Conditions: none beyond that the arguments can be read.
-/
import Derived.Test.YtnfaciageadlkaaRcL
namespace Go.Proofs.Ytnfaciageadlkaa
set_option linter.unusedSimpArgs false
set_option linter.unusedVariables false
set_option maxRecDepth 100000
open Go.RowKit

/-- Some counts, and some error. -/
def SomeC (hi : Int) (w : World) (e : Ending) (w' : World) : Prop :=
  ∃ (D : List Int) (a : Option Addr) (c : Nat) (k : Int), e = .returned (.tuple #[.agg #[.slice a D.length c], .int .i64 k]) ∧ RdI w' a D ∧ inR 0 hi D ∧ Below w.heap.size w w'
def SomeD (hi : Int) (w : World) (e : Ending) (w' : World) : Prop :=
  ∃ (D : List Int) (a : Option Addr) (c : Nat) (f : Value) (k : Int), e = .returned (.tuple #[.agg #[.slice a D.length c], f, .int .i64 k]) ∧ RdI w' a D ∧ inR 0 hi D ∧ Below w.heap.size w w'
theorem inR_nil (lo hi : Int) : inR lo hi [] := fun x hx => by simp at hx
theorem rdI_nil (w : World) : RdI w none [] := ⟨by simp, .inl rfl⟩
theorem add_some (C : List Int) (l : List E) (a al : Option Addr) (c cl : Nat) (hi : Int) (w : World) (hrC : RdI w a C) (hr : Rd w al l) (hw : wfL l) (hR : inR 0 hi C) (h0 : 0 ≤ hi ∧ hi ≤ 1000000000) (hl : l.length ≤ 8) :
    Calls Try.prog 6 #[.agg #[.slice a C.length c], .slice al l.length cl] w (SomeC (hi + 8) w) := by
  cases hp : permB C.length l
  · refine (add_no C l a al c cl w hrC.1 hr hw hp).mono ?_
    rintro e w' ⟨rfl, hb⟩
    exact ⟨[], none, 0, 2, rfl, rdI_nil _, inR_nil _ _, hb⟩
  · refine (add_yes C l a al c cl w hrC hr hw hp (inR_mono hR (by omega) (by omega)) (by omega)).mono ?_
    rintro e w' ⟨v, rfl, ho, hb⟩
    obtain ⟨a2, c2, rfl, hr2⟩ := ho.rd (by rw [chgL_length]; exact hrC.1)
    exact ⟨_, a2, c2, 0, rfl, hr2, inR_mono (chg_up hp hR) (by omega) (by omega), hb⟩
theorem drop_some (C : List Int) (l : List E) (a al : Option Addr) (c cl : Nat) (hi : Int) (w : World) (hrC : RdI w a C) (hr : Rd w al l) (hw : wfL l) (hR : inR 0 hi C) (h0 : 0 ≤ hi ∧ hi ≤ 1000000000) (hl : l.length ≤ 8) :
    Calls Try.prog 10 #[.agg #[.slice a C.length c], .slice al l.length cl] w (SomeD (hi + 8) w) := by
  cases hp : permB C.length l
  · refine (drop_no C l a al c cl w hrC.1 hr hw hp).mono ?_
    rintro e w' ⟨rfl, hb⟩
    exact ⟨[], none, 0, _, 2, rfl, rdI_nil _, inR_nil _ _, hb⟩
  · cases hn : negB (chgL C l (-1))
    · refine (drop_yes C l a al c cl w hrC hr hw hp (inR_mono hR (by omega) (by omega)) (by omega) hn).mono ?_
      rintro e w' ⟨v, f, rfl, ho, _, hb⟩
      obtain ⟨a2, c2, rfl, hr2⟩ := ho.rd (by rw [chgL_length]; exact hrC.1)
      exact ⟨_, a2, c2, f, 0, rfl, hr2, inR_mono (chg_down hp hR ((negB_iff _).1 hn)) (by omega) (by omega), hb⟩
    · refine (drop_state C l a al c cl w hrC hr hw hp (inR_mono hR (by omega) (by omega)) (by omega) hn).mono ?_
      rintro e w' ⟨rfl, hb⟩
      exact ⟨[], none, 0, _, 8, rfl, rdI_nil _, inR_nil _ _, hb⟩

/-- What the laws keep: the box of c, both counts, the list. -/
structure Kept (w0 w : World) (T : Nat) (C : List Int) (a3 a4 : Option Addr) (c3 : Nat) (al : Option Addr) (l : List E) : Prop where
  t : w.cell? ⟨T, 0, none⟩ = some (.slice a3 C.length c3)
  c : RdI w a3 C
  d : RdI w a4 C
  l : Rd w al l
  B : Below w0.heap.size w0 w
theorem Kept.later {w0 w w' : World} {T : Nat} {C : List Int} {a3 a4 : Option Addr} {c3 : Nat} {al : Option Addr} {l : List E} (h : Kept w0 w T C a3 a4 c3 al l) (hb : Below w.heap.size w w') : Kept w0 w' T C a3 a4 c3 al l :=
  ⟨hb.keep h.t, h.c.keep hb, h.d.keep hb, h.l.keep hb, h.B.on hb⟩

theorem lenL_bd (l : List E) (M : Int) (h : ∀ x ∈ l, 0 ≤ x.n ∧ x.n ≤ M) : 0 ≤ lenL l ∧ lenL l ≤ M * l.length := by
  induction l with
  | nil => simp [lenL]
  | cons x r ih =>
    have h1 := h x (by simp)
    have h2 := ih fun y hy => h y (by simp [hy])
    rw [lenL_cons, List.length_cons, show ((r.length + 1 : Nat) : Int) = r.length + 1 by omega, Int.mul_add]
    omega
theorem total_is' (C : List Int) (a : Option Addr) (c : Nat) (r : Int) (w : World) (hrC : RdI w a C) (hR : inR 0 1000000000 C) (h : sumC C = r) :
    Calls Try.prog 7 #[.agg #[.slice a C.length c]] w fun e w' => e = .returned (.int .i64 r) ∧ Below w.heap.size w w' := by subst h; exact total_any C a c w hrC hR
end Go.Proofs.Ytnfaciageadlkaa
