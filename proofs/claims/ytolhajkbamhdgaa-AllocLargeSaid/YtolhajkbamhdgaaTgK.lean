/-
  The walk of the law ExtentUnique.
  Conditions: none beyond that the arguments can be read.
-/
import Derived.Test.YtolhajkbamhdgaaTgI
import Derived.Test.YtolhajkbamhdgaaTgS
import Derived.Deep.CutRange
namespace Go.Proofs.Ytolhajkbamhdgaa
set_option linter.unusedSimpArgs false
set_option linter.unusedVariables false
open Go.RowKit


theorem sepOf {v v' : Value} {N M : Nat} (h : ∀ j, v.ownBlock = some j → j < N) (h' : ∀ j, v'.ownBlock = some j → N ≤ j ∧ j < M) : v.ownBlock = none ∨ v.ownBlock ≠ v'.ownBlock := by
  cases hv : v.ownBlock with
  | none => exact .inl rfl
  | some j => exact .inr fun e => by have := h j hv; have := (h' j e.symm).1; omega
theorem len1 {P : Program} {f : FuncId} {a : Option Addr} {n m c : Nat} {w : World} {R : Ending → World → Prop} (hn : n = m) (h : Calls P f #[.slice a m c] w R) : Calls P f #[.slice a n c] w R := by
  subst hn; exact h
theorem cellsL_slot (l : List E) (k : Nat) (h : k < l.length) (s : Int) : (cellsL l).set (k * 3 + 2) (.int .i64 s) = cellsL (l.set k (l[k].slot s)) := by
  rw [set_split l k h]
  have e : cellsL l = cellsL (l.take k) ++ (E.cells l[k] ++ cellsL (l.drop (k + 1))) := by
    conv => lhs; rw [split_at l k h, cellsL_append]
    rfl
  have hk : (cellsL (l.take k)).length = k * 3 := by rw [cellsL_length, List.length_take, Nat.min_eq_left (by omega)]
  rw [e, cellsL_append, List.set_append_right _ _ (by rw [hk]; omega), hk, show k * 3 + 2 - k * 3 = 2 by omega]
  rfl
theorem OwnE.slot {w : World} {B g c : Nat} {l : List E} (h : OwnE w B (.slice (some ⟨g, 0, none⟩) l.length c) l) (k : Nat) (hk : k < l.length) (s : Int) :
    OwnE (w.setCell ⟨g, k * 3 + 2, none⟩ (.int .i64 s)) B (.slice (some ⟨g, 0, none⟩) l.length c) (l.set k (l[k].slot s)) ∧ w.grownBy (w.setCell ⟨g, k * 3 + 2, none⟩ (.int .i64 s)) (some g) := by
  have hst := World.ownsRow.stored h (k * 3 + 2) (.int .i64 s)
  rw [cellsL_slot l k hk s] at hst
  refine ⟨?_, hst.2⟩
  unfold OwnE
  rw [List.length_set]
  exact hst.1
theorem Rd.take {w : World} {a : Option Addr} {l : List E} (h : Rd w a l) (k : Nat) : Rd w a (l.take k) := by
  refine ⟨Nat.le_trans (List.length_take_le' ..) h.1, h.2.imp (fun e => by rw [e]; simp) fun ⟨b, o, ha, hat⟩ => ⟨b, o, ha, fun j x hj => hat j x ?_⟩⟩
  rw [List.getElem?_take] at hj
  split at hj
  · exact hj
  · cases hj
theorem Rd.drop {w : World} {b o : Nat} {l : List E} (h : Rd w (some ⟨b, o, none⟩) l) (k : Nat) : Rd w (some ⟨b, o + k * 3, none⟩) (l.drop k) := by
  refine ⟨by have := h.1; simp; omega, ?_⟩
  rcases h.2 with rfl | ⟨b', o', ha, hat⟩
  · exact .inl (by simp)
  · simp only [Option.some.injEq, Addr.mk.injEq, and_true] at ha
    obtain ⟨rfl, rfl⟩ := ha
    refine .inr ⟨_, _, rfl, fun j x hj => ?_⟩
    rw [List.getElem?_drop] at hj
    obtain ⟨c1, c2, c3⟩ := hat (k + j) x hj
    have e : b + 0 = b := rfl
    refine ⟨?_, ?_, ?_⟩
    · rw [show o + k * 3 + j * 3 = o + (k + j) * 3 by omega]; exact c1
    · rw [show o + k * 3 + j * 3 + 1 = o + (k + j) * 3 + 1 by omega]; exact c2
    · rw [show o + k * 3 + j * 3 + 2 = o + (k + j) * 3 + 2 by omega]; exact c3


end Go.Proofs.Ytolhajkbamhdgaa
