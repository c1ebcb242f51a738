/-
  slices.IndexFunc with Put's function, slices.Insert of one extent.
  Conditions: as each theorem says.
-/
import Derived.Test.YtolhajkbamhdgaaTgK
import Derived.Test.YtolhajkbamhdgaaTgL
import Derived.Test.YtolhajkbamhdgaaTgT
namespace Go.Proofs.Ytolhajkbamhdgaa
set_option linter.unusedSimpArgs false
set_option linter.unusedVariables false
open Go.RowKit


/-- What an owned list is, its whole block with it. -/
theorem OwnE.whole {w : World} {B : Nat} {v : Value} {l : List E} (h : OwnE w B v l) (h0 : 0 < l.length) : ∃ g c T, v = .slice (some ⟨g, 0, none⟩) l.length c ∧ B ≤ g ∧ l.length ≤ c ∧ c ≤ maxLen ∧ (cellsL l ++ T).length = c * 3 ∧ w.heap[g]? = some (.cells (cellsL l ++ T).toArray 41 (0, 0)) := by
  rcases h.2 with ⟨_, h2⟩ | ⟨g, cap, cur, rfl, hb, hg, hn, hc, hs, ht⟩
  · omega
  · refine ⟨g, cap, cur.toList.drop (l.length * 3), rfl, hb, hn, hc, ?_, ?_⟩
    · rw [← ht, List.take_append_drop]; simpa using hs
    · rw [← ht, List.take_append_drop]; simpa using hg
theorem OwnE.of_row {w : World} {B g c : Nat} {L : List Value} {l : List E} (hg : w.heap[g]? = some (.cells L.toArray 41 (0, 0))) (hB : B ≤ g) (hc : c ≤ maxLen) (hn : l.length ≤ c) (hL : L.length = c * 3) (ht : L.take (l.length * 3) = cellsL l) :
    OwnE w B (.slice (some ⟨g, 0, none⟩) l.length c) l :=
  ⟨cellsL_length l, .inr ⟨g, c, L.toArray, rfl, hB, hg, hn, hc, by simpa using hL, by simpa using ht⟩⟩
theorem cell_row {w : World} {g : Nat} {L : List Value} {t : TypeId} (hg : w.heap[g]? = some (.cells L.toArray t (0, 0))) (j : Nat) : w.cell? ⟨g, j, none⟩ = L[j]? := by
  simp [World.cell?, hg]
/-- Cells of a row from a place on. -/
theorem cells_from_row {w : World} {g off : Nat} {L : List Value} {t : TypeId} (cs : List Value) (hg : w.heap[g]? = some (.cells L.toArray t (0, 0))) (h : ∀ j v, cs[j]? = some v → L[off + j]? = some v) :
    ∀ j v, cs[j]? = some v → w.cell? ((⟨g, off, none⟩ : Addr).add j) = some v := by
  intro j v hj
  have hadd : (⟨g, off, none⟩ : Addr).add j = ⟨g, off + j, none⟩ := by unfold Addr.add; split <;> simp_all
  rw [hadd, cell_row hg, h j v hj]

theorem sem_pure_bind {α β : Type} (d : α) (f : α → Sem β) : (pure d : Sem α).bind f = f d := rfl
theorem splice_at {α : Type} (A B C : List α) (k : Nat) (hk : A.length = k) : splice (A ++ B) k C = A ++ (C ++ B.drop C.length) := by
  subst hk
  unfold splice
  rw [List.take_left, List.drop_append]
  simp
theorem splice_in {α : Type} (A D T X : List α) (k m : Nat) (hk : A.length = k) (hm : X.length = m) (hT : m ≤ T.length) :
    splice (splice (A ++ (D ++ T)) (k + m) D) k X = A ++ (X ++ (D ++ T.drop m)) := by
  subst hk; subst hm
  have e : A ++ (D ++ T) = (A ++ (D ++ T).take X.length) ++ (D ++ T).drop X.length := by rw [List.append_assoc, List.take_append_drop]
  rw [e, splice_at _ _ _ _ (by simp; omega), List.append_assoc, splice_at _ _ _ _ rfl]
  congr 2
  have h1 : ((D ++ T).take X.length).length = X.length := by simp; omega
  rw [List.drop_append, h1, Nat.sub_self, List.drop_zero, List.drop_eq_nil_of_le (by omega), List.nil_append]
  congr 1
  rw [List.drop_drop, List.drop_append, List.drop_eq_nil_of_le (by omega), List.nil_append]
  congr 1
  omega
theorem cellsL_split (R : List E) (i : Nat) : cellsL R = cellsL (R.take i) ++ cellsL (R.drop i) := by
  rw [← cellsL_append, List.take_append_drop]
theorem cellsL_insert (R : List E) (i : Nat) (x : E) : cellsL (insertAt R i x) = cellsL (R.take i) ++ (x.cells ++ cellsL (R.drop i)) := by
  unfold insertAt
  rw [cellsL_append, cellsL_append]
  have : cellsL [x] = x.cells := by simp [cellsL]
  rw [this]
theorem insertAt_length (R : List E) (i : Nat) (x : E) (hi : i ≤ R.length) : (insertAt R i x).length = R.length + 1 := by
  unfold insertAt; simp; omega
theorem room_row (R : List E) (i : Nat) (x : E) (T : List Value) (hi : i < R.length) (hT : 3 ≤ T.length) :
    splice (splice (cellsL R ++ T) ((i + 1) * 3) (cellsL (R.drop i))) (i * 3) x.cells = cellsL (insertAt R i x) ++ T.drop 3 := by
  have hk : (cellsL (R.take i)).length = i * 3 := by rw [cellsL_length, List.length_take, Nat.min_eq_left (by omega)]
  rw [cellsL_split R i, List.append_assoc, show (i + 1) * 3 = i * 3 + 3 by omega, splice_in _ _ _ x.cells _ 3 hk rfl hT, cellsL_insert]
  simp

theorem grow_row (A Z X D : List Value) (k : Nat) (hk : A.length = k) (hX : X.length = 3) : splice (splice (A ++ Z) k X) (k + 3) D = A ++ (X ++ (D ++ (Z.drop 3).drop D.length)) := by
  rw [splice_at _ _ _ _ hk, ← List.append_assoc, hX, splice_at (A ++ X) _ _ _ (by rw [List.length_append, hk, hX]), List.append_assoc]
theorem grown_of_below {w w' : World} (h : Below w.heap.size w w') (row : Option Nat) : w.grownBy w' row := ⟨h.os, h.tape, h.output, h.size, fun k hk _ => h.block k hk⟩

end Go.Proofs.Ytolhajkbamhdgaa
