/-
  extent.Cut.
  Conditions: as each theorem says.
-/
import Derived.Test.YtolhajkbamhdgaaTgD
namespace Go.Proofs.Ytolhajkbamhdgaa
set_option linter.unusedSimpArgs false
set_option linter.unusedVariables false
open Go.RowKit

/-- Two owned lists beside a variable: the world of Cut's rounds. -/
structure St (w0 W : World) (X : Nat) (x : E) (vR : Value) (R : List E) (vM : Value) (M : List E) : Prop where
  x1 : W.cell? ⟨X, 0, none⟩ = some (.int .i64 x.a)
  x2 : W.cell? ⟨X, 1, none⟩ = some (.int .i64 x.n)
  x3 : W.cell? ⟨X, 2, none⟩ = some (.int .i64 x.s)
  hR : OwnE W w0.heap.size vR R
  hM : OwnE W w0.heap.size vM M
  nR : vR.ownBlock ≠ some X
  nM : vM.ownBlock ≠ some X
  sep : vR.ownBlock = none ∨ vR.ownBlock ≠ vM.ownBlock
  hB : Below w0.heap.size w0 W
section
variable {w0 W W' : World} {X : Nat} {x : E} {vR vM v : Value} {R M L : List E}
theorem St.later (h : St w0 W X x vR R vM M) (hb : Below W.heap.size W W') : St w0 W' X x vR R vM M :=
  ⟨hb.keep h.x1, hb.keep h.x2, hb.keep h.x3, h.hR.keep hb, h.hM.keep hb, h.nR, h.nM, h.sep, h.hB.on hb⟩
theorem St.alloc (h : St w0 W X x vR R vM M) (o : Obj) : St w0 (W.alloc o) X x vR R vM M := h.later ((Below.refl _ _).onAlloc o)
theorem St.lt (h : St w0 W X x vR R vM M) : X < W.heap.size := World.block_lt_of_cell? W _ h.x1
theorem St.pushR (h : St w0 W X x vR R vM M) (ho : OwnE W' w0.heap.size v L) (hg : W.grownBy W' vR.ownBlock) (hw : v.ownBlock = vR.ownBlock ∨ ∃ k, v.ownBlock = some k ∧ W.heap.size ≤ k) : St w0 W' X x v L vM M := by
  have hne : some X ≠ vR.ownBlock := fun e => h.nR e.symm
  have hsep : vM.ownBlock = none ∨ vM.ownBlock ≠ vR.ownBlock := by
    rcases h.sep with e | e
    · cases hm : vM.ownBlock with
      | none => exact .inl rfl
      | some j => exact .inr (by rw [e]; simp)
    · exact .inr (Ne.symm e)
  refine ⟨hg.cell h.x1 hne, hg.cell h.x2 hne, hg.cell h.x3 hne, ho, h.hM.other hg hsep, ?_, h.nM, ?_, h.hB.onGrow hg fun k hk => (h.hR.lt k hk).1⟩
  · rcases hw with e | ⟨k, e, hk⟩
    · rw [e]; exact h.nR
    · rw [e]; have := h.lt; simp; omega
  · rcases hw with e | ⟨k, e, hk⟩
    · rw [e]; exact h.sep
    · refine .inr ?_
      rw [e]
      intro he
      have := (h.hM.lt k he.symm).2
      omega
theorem St.swap (h : St w0 W X x vR R vM M) : St w0 W X x vM M vR R :=
  ⟨h.x1, h.x2, h.x3, h.hM, h.hR, h.nM, h.nR, by
    rcases h.sep with e | e
    · cases hm : vM.ownBlock with
      | none => exact .inl rfl
      | some j => exact .inr (by rw [e]; simp)
    · exact .inr (Ne.symm e), h.hB⟩
theorem St.pushM (h : St w0 W X x vR R vM M) (ho : OwnE W' w0.heap.size v L) (hg : W.grownBy W' vM.ownBlock) (hw : v.ownBlock = vM.ownBlock ∨ ∃ k, v.ownBlock = some k ∧ W.heap.size ≤ k) : St w0 W' X x vR R v L :=
  (h.swap.pushR ho hg hw).swap
end

/-- The two results of Cut. -/
def CutPost (w : World) (R M : List E) (e : Ending) (w' : World) : Prop :=
  ∃ v m, e = .returned (.tuple #[v, m, .int .i64 0]) ∧ OwnE w' w.heap.size v R ∧ OwnE w' w.heap.size m M ∧ (v.ownBlock = none ∨ v.ownBlock ≠ m.ownBlock) ∧ Below w.heap.size w w'


def CutNo (w : World) (e : Ending) (w' : World) : Prop := e = .returned (.tuple #[.slice none 0 0, .slice none 0 0, .int .i64 1]) ∧ Below w.heap.size w w'
end Go.Proofs.Ytolhajkbamhdgaa
