/-
  Lists of extents that a call owns; extent.push.
  Conditions: as each theorem says.
-/
import Derived.Test.YtolhajkbamhdgaaTgB
namespace Go.Proofs.Ytolhajkbamhdgaa
set_option linter.unusedSimpArgs false
set_option linter.unusedVariables false
open Go.RowKit

def E.cells (x : E) : List Value := [.int .i64 x.a, .int .i64 x.n, .int .i64 x.s]
def cellsL (l : List E) : List Value := l.flatMap E.cells
theorem cellsL_length (l : List E) : (cellsL l).length = l.length * 3 := by
  induction l with
  | nil => rfl
  | cons x r ih => simp only [cellsL, List.flatMap_cons, List.length_append, List.length_cons] at ih ⊢; rw [ih]; simp [E.cells]; omega
theorem cellsL_append (l r : List E) : cellsL (l ++ r) = cellsL l ++ cellsL r := by simp [cellsL]
theorem cellsL_get (l : List E) : ∀ (k : Nat) (x : E), l[k]? = some x → (cellsL l)[k * 3]? = some (.int .i64 x.a) ∧ (cellsL l)[k * 3 + 1]? = some (.int .i64 x.n) ∧ (cellsL l)[k * 3 + 2]? = some (.int .i64 x.s) := by
  induction l with
  | nil => intro k x h; simp at h
  | cons y r ih =>
    intro k x h
    cases k with
    | zero => simp at h; subst h; simp [cellsL, E.cells]
    | succ k =>
      obtain ⟨h1, h2, h3⟩ := ih k x (by simpa using h)
      have e : cellsL (y :: r) = [.int .i64 y.a, .int .i64 y.n, .int .i64 y.s] ++ cellsL r := rfl
      rw [e]
      refine ⟨?_, ?_, ?_⟩
      · rw [List.getElem?_append_right (by simp; omega), ← h1]; congr 1; simp; omega
      · rw [List.getElem?_append_right (by simp; omega), ← h2]; congr 1; simp; omega
      · rw [List.getElem?_append_right (by simp; omega), ← h3]; congr 1; simp; omega
theorem cellsL_one (l : List E) : ∀ u ∈ cellsL l, u.oneCell' = true := by
  intro u hu
  simp only [cellsL, List.mem_flatMap, E.cells] at hu
  obtain ⟨x, _, hx⟩ := hu
  simp at hx
  rcases hx with rfl | rfl | rfl <;> rfl

/-- The slice value v, owned from block B on, holds the list l. -/
def OwnE (w : World) (B : Nat) (v : Value) (l : List E) : Prop := w.ownsRow B 41 3 v l.length (cellsL l)
theorem OwnE.nil (w : World) (B : Nat) : OwnE w B (.slice none 0 0) [] := World.ownsRow_nil _ _ _ _
theorem OwnE.lt {w : World} {B : Nat} {v : Value} {l : List E} (h : OwnE w B v l) : ∀ k, v.ownBlock = some k → B ≤ k ∧ k < w.heap.size := World.ownsRow.lt h
theorem OwnE.mono {w : World} {B B' : Nat} {v : Value} {l : List E} (h : OwnE w B v l) (hB : B' ≤ B) : OwnE w B' v l :=
  ⟨h.1, h.2.imp id fun ⟨g, cap, cur, hv, hg, r⟩ => ⟨g, cap, cur, hv, Nat.le_trans hB hg, r⟩⟩
theorem OwnE.keep {w w' : World} {B : Nat} {v : Value} {l : List E} (h : OwnE w B v l) (hb : Below w.heap.size w w') : OwnE w' B v l :=
  World.ownsRow.kept h (row := none) ⟨hb.os, hb.tape, hb.output, hb.size, fun k hk _ => hb.block k hk⟩ (by cases hv : v.ownBlock <;> simp)
/-- Another row is written. -/
theorem OwnE.other {w w' : World} {B : Nat} {v : Value} {l : List E} {row : Option Nat} (h : OwnE w B v l) (hg : w.grownBy w' row) (hne : v.ownBlock = none ∨ v.ownBlock ≠ row) : OwnE w' B v l :=
  World.ownsRow.kept h hg hne
/-- What an owned list is: nil, or a block. -/
theorem OwnE.form {w : World} {B : Nat} {v : Value} {l : List E} (h : OwnE w B v l) :
    (v = .slice none 0 0 ∧ l = []) ∨ ∃ g c, v = .slice (some ⟨g, 0, none⟩) l.length c ∧ B ≤ g ∧ g < w.heap.size ∧ l.length ≤ c ∧ c ≤ maxLen ∧ (∀ k x, l[k]? = some x → At w g 0 k x) ∧ ∀ i, w.frozen? ⟨g, i, none⟩ = false := by
  rcases h.2 with ⟨rfl, hn⟩ | ⟨g, cap, cur, rfl, hb, hg, hn, hc, hs, ht⟩
  · exact .inl ⟨rfl, List.eq_nil_of_length_eq_zero hn⟩
  · refine .inr ⟨g, cap, rfl, hb, (Array.getElem?_eq_some_iff.1 hg).1, hn, hc, fun k x hk => ?_, fun i => World.ownsRow.frozenAt h i⟩
    have hk' : k < l.length := (List.getElem?_eq_some_iff.1 hk).1
    obtain ⟨h1, h2, h3⟩ := cellsL_get l k x hk
    have c := fun j hj => World.ownsRow.cellAt (cap := cap) h j hj
    refine ⟨?_, ?_, ?_⟩
    · rw [Nat.zero_add, c _ (by omega), h1]
    · rw [Nat.zero_add, c _ (by omega), h2]
    · rw [Nat.zero_add, c _ (by omega), h3]
theorem OwnE.rd {w : World} {B : Nat} {v : Value} {l : List E} (h : OwnE w B v l) (hl : l.length ≤ 46912496118443) : ∃ a c, v = .slice a l.length c ∧ Rd w a l := by
  rcases h.form with ⟨rfl, rfl⟩ | ⟨g, c, rfl, _, _, _, _, hat, _⟩
  · exact ⟨_, _, rfl, by simp, .inl rfl⟩
  · exact ⟨_, _, rfl, hl, .inr ⟨g, 0, rfl, hat⟩⟩

theorem OwnE.snoc {w : World} {B n : Nat} {v : Value} {l : List E} {x : E} (h : w.ownsRow B 41 3 v n (cellsL l ++ x.cells)) (hn : n = l.length + 1) : OwnE w B v (l ++ [x]) := by
  subst hn
  unfold OwnE
  rw [cellsL_append, List.length_append]
  have : cellsL [x] = x.cells := by simp [cellsL]
  rw [this]
  exact h

theorem cellsL_longer (l : List E) (y : E) (n : Int) : (cellsL (l ++ [y])).set (l.length * 3 + 1) (.int .i64 (y.n + n)) = cellsL (l ++ [y.longer n]) := by
  rw [cellsL_append, cellsL_append, List.set_append_right _ _ (by rw [cellsL_length]; omega), cellsL_length, show l.length * 3 + 1 - l.length * 3 = 1 by omega]
  rfl

theorem infoE : (Try.prog.info? 41).map (fun i => (i.zero, i.size, i.bytes)) = some (some (.agg #[.int .i64 0, .int .i64 0, .int .i64 0]), 3, 24) := by kernel_rfl





/-- push, whatever the list: what the call leaves. -/
def Pushed (w : World) (B : Nat) (v : Value) (l : List E) (e : Ending) (w' : World) : Prop :=
  ∃ v', e = .returned v' ∧ OwnE w' B v' l ∧ w.grownBy w' v.ownBlock ∧ (v'.ownBlock = v.ownBlock ∨ ∃ k, v'.ownBlock = some k ∧ w.heap.size ≤ k)
end Go.Proofs.Ytolhajkbamhdgaa
