/-
  The statements' helper build of chapter 34.
  Conditions: as the theorem says.
-/
import Derived.Test.YtnfaciageadlkaaRcI
namespace Go.Proofs.Ytnfaciageadlkaa
set_option linter.unusedSimpArgs false
set_option linter.unusedVariables false
set_option maxRecDepth 100000
open Go.RowKit

/-- The variables of build: c lies in block T, d is a value; w0 is the world of the call's beginning. -/
structure Pair (w0 w : World) (T m : Nat) (C : List Int) (ac ad : Option Addr) (cc cd : Nat) : Prop where
  len : C.length = m
  t : w.cell? ⟨T, 0, none⟩ = some (.slice ac m cc)
  ft : w.frozen? ⟨T, 0, none⟩ = false
  hc : OwnI w (w0.heap.size + 1) (.slice ac m cc) C
  hd : OwnI w (w0.heap.size + 1) (.slice ad m cd) C
  nc : (Value.slice ac m cc).ownBlock ≠ some T
  nd : (Value.slice ad m cd).ownBlock ≠ some T
  res : w.cell? ⟨w0.heap.size, 0, none⟩ = some (.slice none 0 0)
  fr : w.frozen? ⟨w0.heap.size, 0, none⟩ = false
  hB : Below w0.heap.size w0 w
theorem OwnI.rd' {w : World} {B : Nat} {a : Option Addr} {n c : Nat} {C : List Int} (h : OwnI w B (.slice a n c) C) (hl : C.length ≤ 65536) : RdI w a C := by
  obtain ⟨a', c', he, hr⟩ := h.rd hl
  injection he with he
  rw [he]
  exact hr
theorem Pair.later {w0 w w' : World} {T m : Nat} {C : List Int} {ac ad : Option Addr} {cc cd : Nat} (h : Pair w0 w T m C ac ad cc cd) (hb : Below w.heap.size w w') : Pair w0 w' T m C ac ad cc cd :=
  ⟨h.len, hb.keep h.t, hb.keepF h.t h.ft, h.hc.keep hb, h.hd.keep hb, h.nc, h.nd, hb.keep h.res, hb.keepF h.res h.fr, h.hB.on hb⟩
/-- c and d are given new values. -/
theorem Pair.put {w0 w : World} {T m : Nat} {C D : List Int} {ac ad a2 a3 : Option Addr} {cc cd c2 c3 : Nat} (h : Pair w0 w T m C ac ad cc cd) (hT : w0.heap.size < T) (hD : D.length = m)
    (hc : OwnI w (T + 1) (.slice a2 m c2) D) (hd : OwnI w (T + 1) (.slice a3 m c3) D) : Pair w0 (w.setCell ⟨T, 0, none⟩ (.slice a2 m c2)) T m D a2 a3 c2 c3 := by
  have n2 : (Value.slice a2 m c2).ownBlock ≠ some T := fun e => by have := (hc.lt _ e).1; omega
  have n3 : (Value.slice a3 m c3).ownBlock ≠ some T := fun e => by have := (hd.lt _ e).1; omega
  have hg := grown_setCell w ⟨T, 0, none⟩ (.slice a2 m c2)
  refine ⟨hD, ?_, ?_, (hc.away _ _ n2).mono (by omega), (hd.away _ _ n3).mono (by omega), n2, n3, hg.cell h.res (by simp; omega), grown_free hg h.res h.fr (by simp; omega), h.hB.setCell (by simp; omega) _⟩
  · exact World.cell?_setCell_same _ _ _ h.t
  · rw [World.frozen?_setCell]
    exact h.ft
/-- What build leaves: both counts read as one list. -/
def BuildPost (n : Nat) (w : World) (e : Ending) (w' : World) : Prop :=
  ∃ (C : List Int) (a a2 : Option Addr) (c c2 : Nat), e = .returned (.tuple #[.agg #[.slice a C.length c], .slice a2 C.length c2, .bool true]) ∧ C.length = n ∧ inR 0 160 C ∧ RdI w' a C ∧ RdI w' a2 C ∧ Below w.heap.size w w'
end Go.Proofs.Ytnfaciageadlkaa
