/-
  tegularef36: with.
  Conditions: as each theorem says.
-/
import Derived.Test.YtpakjddfnhnndaaFbH
namespace Go.Proofs.Ytpakjddfnhnndaa
set_option linter.unusedSimpArgs false
set_option linter.unusedVariables false
set_option maxRecDepth 100000
open Go.RowKit

/-- A volume in a local variable. -/
structure XH (W : World) (Y : Nat) (x : RT) : Prop where
  x0 : W.cell? ⟨Y, 0, none⟩ = some (nmV x.nm)
  x1 : W.cell? ⟨Y, 1, none⟩ = some (.int .i64 x.n)
  x2 : W.cell? ⟨Y, 2, none⟩ = some (.int .i64 x.r)
  x3 : W.cell? ⟨Y, 3, none⟩ = some x.sl
theorem XH.lt {W : World} {Y : Nat} {x : RT} (h : XH W Y x) : Y < W.heap.size := World.block_lt_of_cell? W ⟨Y, 0, none⟩ h.x0
theorem XH.new (W : World) (x : RT) (t : TypeId) : XH (W.alloc (.cells #[nmV x.nm, .int .i64 x.n, .int .i64 x.r, x.sl] t)) W.heap.size x := by
  refine ⟨by simp, by simp, by simp, by simp⟩
theorem XH.fit (V : World) (B : Nat) (hB : V.heap.size = B) (x : RT) (t : TypeId) : XH (V.alloc (.cells #[nmV x.nm, .int .i64 x.n, .int .i64 x.r, x.sl] t)) B x := by
  subst hB
  exact XH.new _ _ _
theorem XH.later {W W' : World} {Y : Nat} {x : RT} (h : XH W Y x) (hb : Below W.heap.size W W') : XH W' Y x := ⟨hb.keep h.x0, hb.keep h.x1, hb.keep h.x2, hb.keep h.x3⟩
theorem XH.put {W W' : World} {Y S : Nat} {x : RT} {row : Option Nat} {u : Value} (h : XH W Y x) (hg : W.grownBy W' row) (hO : row ≠ some Y) (hS : Y ≠ S) : XH (W'.setCell ⟨S, 1, none⟩ u) Y x := by
  have hlt := h.lt
  have k : ∀ i, (W'.setCell ⟨S, 1, none⟩ u).cell? ⟨Y, i, none⟩ = W.cell? ⟨Y, i, none⟩ := fun i => by
    rw [cell_far (by simpa using hS)]
    exact World.cell?_of_block (hg.block Y hlt fun e => hO e.symm)
  exact ⟨(k 0).trans h.x0, (k 1).trans h.x1, (k 2).trans h.x2, (k 3).trans h.x3⟩
theorem less_before : ∀ (a b : List UInt8), Op.bytesLess a b = bytesBefore a b
  | [], [] => rfl
  | [], _ :: _ => rfl
  | _ :: _, [] => rfl
  | x :: r, y :: s => by simp only [Op.bytesLess, bytesBefore, less_before r s]
theorem new2 (V : World) (B : Nat) (hB : V.heap.size = B) (x y : Value) (t : TypeId) : (V.alloc (.cells #[x, y] t)).cell? ⟨B, 0, none⟩ = some x ∧ (V.alloc (.cells #[x, y] t)).cell? ⟨B, 1, none⟩ = some y ∧ (V.alloc (.cells #[x, y] t)).frozen? ⟨B, 1, none⟩ = false := by
  subst hB
  simp
end Go.Proofs.Ytpakjddfnhnndaa
