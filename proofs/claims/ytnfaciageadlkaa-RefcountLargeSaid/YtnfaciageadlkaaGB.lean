/-
  Extents as the model has them; the contracts of the small functions of package extent and of its specification.
  Lists of extents that a call owns; extent.push.
  Arguments opened: lists of extents, extents by value.
  extent.Join, extent.Blocks, extent.Find, extent.part, extent.Cut.
  The specification's One, Valid, Range, part, parts, Join, Cut, Same, Blocks, Find.
  Conditions: as each theorem says.
-/
import Derived.Test.YtnfaciageadlkaaRows
import Derived.Test.YtnfaciageadlkaaGA
import Derived.Lib.Hide
import Derived.ProofKit
import Derived.OpenShut
import Derived.ShutString
import Derived.ChangeOld
import Derived.Below
import Derived.Deep.Slices
import Derived.Deep.Fields
import Derived.ChangeSame
import Derived.Lib.SmallJoins
namespace Go.Proofs.Ytnfaciageadlkaa
set_option linter.unusedSimpArgs false
set_option linter.unusedVariables false
set_option maxRecDepth 100000
open Go.RowKit

theorem ret_bool {a b : Bool} (h : a = true ↔ b = true) : Ending.returned (.bool a) = .returned (.bool b) := by rw [Bool.eq_iff_iff.2 h]
theorem ret_int {k : IntKind} {a b : Int} (h : a = b) : Ending.returned (.int k a) = .returned (.int k b) := by rw [h]
set_option maxHeartbeats 400000 in
theorem within_any (a n s : Int) (w : World) (ha : -9223372036854775808 ≤ a) (ha' : a ≤ 9223372036854775807) (hs0 : 0 ≤ s) (hs : s ≤ 100000) :
    Calls Try.prog 33 #[.int .i64 a, .int .i64 n, .int .i64 s] w fun e w' => e = .returned (.bool (withinB a n s)) ∧ w = w' := by
  go_enter Try.func33, Try.ntmps33
  go_wp2
  all_goals
    go_ret
    exact ⟨ret_bool (by simp only [withinB, decide_eq_true_eq, Bool.false_eq_true, false_iff]; omega), rfl⟩

set_option maxHeartbeats 400000 in
theorem proper_any (a n s : Int) (w : World) (ha : -9223372036854775808 ≤ a) (ha' : a ≤ 9223372036854775807) (hs0 : -9223372036854775808 ≤ s) (hs : s ≤ 9223372036854775807) :
    Calls Try.prog 28 #[.agg #[.int .i64 a, .int .i64 n, .int .i64 s]] w fun e w' => e = .returned (.bool (properB a n s)) ∧ Below w.heap.size w w' := by
  go_enter Try.func28, Try.ntmps28
  go_wp2_with (go_at_call 33; refine (within_any _ _ _ _ (by omega) (by omega) (by omega) (by omega)).mono ?_; rintro e w' ⟨rfl, rfl⟩)
  all_goals
    go_ret
    refine ⟨ret_bool ?_, (Below.refl _ _).onAlloc _⟩
    first | (simp [properB, *]; done) | (simp only [properB, Bool.false_eq_true, false_iff, Bool.and_eq_true, decide_eq_true_eq]; omega)


/-- The element k of a list, as cells behind ⟨b, o⟩. -/
structure At (w : World) (b o : Nat) (k : Nat) (x : E) : Prop where
  a : w.cell? ⟨b, o + k * 3, none⟩ = some (.int .i64 x.a)
  n : w.cell? ⟨b, o + k * 3 + 1, none⟩ = some (.int .i64 x.n)
  s : w.cell? ⟨b, o + k * 3 + 2, none⟩ = some (.int .i64 x.s)
/-- The slice 'a, length' reads as the list l. -/
def Rd (w : World) (a : Option Addr) (l : List E) : Prop :=
  l.length ≤ 46912496118443 ∧ (l = [] ∨ ∃ b o, a = some ⟨b, o, none⟩ ∧ ∀ k x, l[k]? = some x → At w b o k x)
theorem proper_is (a n s : Int) (w : World) (r : Bool) (hr : properB a n s = r) (ha : -9223372036854775808 ≤ a) (ha' : a ≤ 9223372036854775807) (hs0 : -9223372036854775808 ≤ s) (hs : s ≤ 9223372036854775807) :
    Calls Try.prog 28 #[.agg #[.int .i64 a, .int .i64 n, .int .i64 s]] w fun e w' => e = .returned (.bool r) ∧ Below w.heap.size w w' := by
  subst hr
  exact proper_any a n s w ha ha' hs0 hs

theorem At.keep {w w' : World} (h : Below w.heap.size w w') {b o k : Nat} {x : E} (ha : At w b o k x) : At w' b o k x := ⟨h.keep ha.a, h.keep ha.n, h.keep ha.s⟩
theorem Rd.keep {w w' : World} (h : Below w.heap.size w w') {a : Option Addr} {l : List E} (hr : Rd w a l) : Rd w' a l :=
  ⟨hr.1, hr.2.imp id fun ⟨b, o, ha, hat⟩ => ⟨b, o, ha, fun k x hk => (hat k x hk).keep h⟩⟩
theorem Rd.at {w : World} {a : Option Addr} {l : List E} (hr : Rd w a l) (h : 0 < l.length) : ∃ b o, a = some ⟨b, o, none⟩ ∧ ∀ k x, l[k]? = some x → At w b o k x :=
  hr.2.resolve_left (by intro e; rw [e] at h; simp at h)


end Go.Proofs.Ytnfaciageadlkaa

namespace Go.Proofs.Ytnfaciageadlkaa
set_option linter.unusedSimpArgs false
set_option linter.unusedVariables false
set_option maxRecDepth 100000
open Go.RowKit

def E.cells (x : E) : List Value := [.int .i64 x.a, .int .i64 x.n, .int .i64 x.s]
def cellsL (l : List E) : List Value := l.flatMap E.cells
theorem cellsL_length (l : List E) : (cellsL l).length = l.length * 3 := by
  induction l with
  | nil => rfl
  | cons x r ih => simp only [cellsL, List.flatMap_cons, List.length_append, List.length_cons] at ih ⊢; rw [ih]; simp [E.cells]; omega
theorem cellsL_append (l r : List E) : cellsL (l ++ r) = cellsL l ++ cellsL r := by simp [cellsL]
theorem cellsL_get (l : List E) : ∀ (k : Nat) (x : E), l[k]? = some x → (cellsL l)[k * 3]? = some (.int .i64 x.a) ∧ (cellsL l)[k * 3 + 1]? = some (.int .i64 x.n) ∧ (cellsL l)[k * 3 + 2]? = some (.int .i64 x.s) := by
  induction l with
  | nil => intro k x h; simp at h
  | cons y r ih =>
    intro k x h
    cases k with
    | zero => simp at h; subst h; simp [cellsL, E.cells]
    | succ k =>
      obtain ⟨h1, h2, h3⟩ := ih k x (by simpa using h)
      have e : cellsL (y :: r) = [.int .i64 y.a, .int .i64 y.n, .int .i64 y.s] ++ cellsL r := rfl
      rw [e]
      refine ⟨?_, ?_, ?_⟩
      · rw [List.getElem?_append_right (by simp; omega), ← h1]; congr 1; simp; omega
      · rw [List.getElem?_append_right (by simp; omega), ← h2]; congr 1; simp; omega
      · rw [List.getElem?_append_right (by simp; omega), ← h3]; congr 1; simp; omega
theorem cellsL_one (l : List E) : ∀ u ∈ cellsL l, u.oneCell' = true := by
  intro u hu
  simp only [cellsL, List.mem_flatMap, E.cells] at hu
  obtain ⟨x, _, hx⟩ := hu
  simp at hx
  rcases hx with rfl | rfl | rfl <;> rfl

/-- The slice value v, owned from block B on, holds the list l. -/
def OwnE (w : World) (B : Nat) (v : Value) (l : List E) : Prop := w.ownsRow B 32 3 v l.length (cellsL l)
theorem OwnE.nil (w : World) (B : Nat) : OwnE w B (.slice none 0 0) [] := World.ownsRow_nil _ _ _ _
theorem OwnE.lt {w : World} {B : Nat} {v : Value} {l : List E} (h : OwnE w B v l) : ∀ k, v.ownBlock = some k → B ≤ k ∧ k < w.heap.size := World.ownsRow.lt h
theorem OwnE.mono {w : World} {B B' : Nat} {v : Value} {l : List E} (h : OwnE w B v l) (hB : B' ≤ B) : OwnE w B' v l :=
  ⟨h.1, h.2.imp id fun ⟨g, cap, cur, hv, hg, r⟩ => ⟨g, cap, cur, hv, Nat.le_trans hB hg, r⟩⟩
theorem OwnE.keep {w w' : World} {B : Nat} {v : Value} {l : List E} (h : OwnE w B v l) (hb : Below w.heap.size w w') : OwnE w' B v l :=
  World.ownsRow.kept h (row := none) ⟨hb.os, hb.tape, hb.output, hb.size, fun k hk _ => hb.block k hk⟩ (by cases hv : v.ownBlock <;> simp)
/-- Another row is written. -/
theorem OwnE.other {w w' : World} {B : Nat} {v : Value} {l : List E} {row : Option Nat} (h : OwnE w B v l) (hg : w.grownBy w' row) (hne : v.ownBlock = none ∨ v.ownBlock ≠ row) : OwnE w' B v l :=
  World.ownsRow.kept h hg hne
/-- What an owned list is: nil, or a block. -/
theorem OwnE.form {w : World} {B : Nat} {v : Value} {l : List E} (h : OwnE w B v l) :
    (v = .slice none 0 0 ∧ l = []) ∨ ∃ g c, v = .slice (some ⟨g, 0, none⟩) l.length c ∧ B ≤ g ∧ g < w.heap.size ∧ l.length ≤ c ∧ c ≤ maxLen ∧ (∀ k x, l[k]? = some x → At w g 0 k x) ∧ ∀ i, w.frozen? ⟨g, i, none⟩ = false := by
  rcases h.2 with ⟨rfl, hn⟩ | ⟨g, cap, cur, rfl, hb, hg, hn, hc, hs, ht⟩
  · exact .inl ⟨rfl, List.eq_nil_of_length_eq_zero hn⟩
  · refine .inr ⟨g, cap, rfl, hb, (Array.getElem?_eq_some_iff.1 hg).1, hn, hc, fun k x hk => ?_, fun i => World.ownsRow.frozenAt h i⟩
    have hk' : k < l.length := (List.getElem?_eq_some_iff.1 hk).1
    obtain ⟨h1, h2, h3⟩ := cellsL_get l k x hk
    have c := fun j hj => World.ownsRow.cellAt (cap := cap) h j hj
    refine ⟨?_, ?_, ?_⟩
    · rw [Nat.zero_add, c _ (by omega), h1]
    · rw [Nat.zero_add, c _ (by omega), h2]
    · rw [Nat.zero_add, c _ (by omega), h3]
theorem OwnE.rd {w : World} {B : Nat} {v : Value} {l : List E} (h : OwnE w B v l) (hl : l.length ≤ 46912496118443) : ∃ a c, v = .slice a l.length c ∧ Rd w a l := by
  rcases h.form with ⟨rfl, rfl⟩ | ⟨g, c, rfl, _, _, _, _, hat, _⟩
  · exact ⟨_, _, rfl, by simp, .inl rfl⟩
  · exact ⟨_, _, rfl, hl, .inr ⟨g, 0, rfl, hat⟩⟩

theorem OwnE.snoc {w : World} {B n : Nat} {v : Value} {l : List E} {x : E} (h : w.ownsRow B 32 3 v n (cellsL l ++ x.cells)) (hn : n = l.length + 1) : OwnE w B v (l ++ [x]) := by
  subst hn
  unfold OwnE
  rw [cellsL_append, List.length_append]
  have : cellsL [x] = x.cells := by simp [cellsL]
  rw [this]
  exact h

theorem cellsL_longer (l : List E) (y : E) (n : Int) : (cellsL (l ++ [y])).set (l.length * 3 + 1) (.int .i64 (y.n + n)) = cellsL (l ++ [y.longer n]) := by
  rw [cellsL_append, cellsL_append, List.set_append_right _ _ (by rw [cellsL_length]; omega), cellsL_length, show l.length * 3 + 1 - l.length * 3 = 1 by omega]
  rfl

theorem infoE : (Try.prog.info? 32).map (fun i => (i.zero, i.size, i.bytes)) = some (some (.agg #[.int .i64 0, .int .i64 0, .int .i64 0]), 3, 24) := by kernel_rfl





/-- push, whatever the list: what the call leaves. -/
def Pushed (w : World) (B : Nat) (v : Value) (l : List E) (e : Ending) (w' : World) : Prop :=
  ∃ v', e = .returned v' ∧ OwnE w' B v' l ∧ w.grownBy w' v.ownBlock ∧ (v'.ownBlock = v.ownBlock ∨ ∃ k, v'.ownBlock = some k ∧ w.heap.size ≤ k)
end Go.Proofs.Ytnfaciageadlkaa

namespace Go.Proofs.Ytnfaciageadlkaa
set_option linter.unusedSimpArgs false
set_option linter.unusedVariables false
set_option maxRecDepth 100000
open Go.ChangeShapes Go.WideShapes Go.ChangeAt Go.RowKit Go.Deep

theorem own : ownKnob Try.prog.godebug = none := by kernel_rfl
theorem laidOut : laidOutB Try.prog = true := by kernel_rfl

section
variable {H : Type} {enc : TypeId × Value → H} {P : Program} {w : World} {base : Nat} {spare : Nat → Bool} {held : Bool}
theorem open_slice_fields {t e : TypeId} {fs : Array Field} {fuel : Nat} {cs : List Value} {x : DataW H × List MemPlace} (ht : P.underlying t = some (.slice e)) (he : P.underlying e = some (.struct fs))
    (hone : oneCellFields P fs = true) (hC : P.cellsOf e = fs.size) (h : DataW.trod enc P w base spare held fuel t cs = some x) :
    (cs = [.slice none 0 0] ∧ x = (.nil, [])) ∨
    ∃ (a : Addr) (len cap m : Nat) (D : Nat → DataW H) (Pl : Nat → List MemPlace), cs = [.slice (some a) len cap] ∧ base ≤ a.block ∧ len ≤ cap ∧ cap ≤ maxLen ∧ m = (if spare a.block then cap else len) ∧
      x = (.slice ((List.range len).map D) ((List.range (m - len)).map fun j => D (len + j)), MemPlace.row a (m * fs.size) ++ (List.range m).flatMap Pl) ∧
      ∀ i, i < m → ∃ (ys : List (DataW H × List MemPlace)) (n : Nat), D i = .agg (ys.map (·.1)) ∧ Pl i = ys.flatMap (·.2) ∧ ys.length = fs.size ∧
        ∀ (j : Nat) (f : Field), fs[j]? = some f → ∃ (v : Value) (y : DataW H × List MemPlace), w.cell? (a.add (i * fs.size + j)) = some v ∧ ys[j]? = some y ∧ DataW.trod enc P w base spare held n f.type [v] = some y := by
  rcases open_slice ht h with h0 | ⟨a, len, cap, m, n, D, Pl, hcs, hb, hl, hm, hmm, hx, hi⟩
  · exact .inl h0
  · refine .inr ⟨a, len, cap, m, D, Pl, hcs, hb, hl, hm, hmm, by rw [hC] at hx; exact hx, fun i him => ?_⟩
    obtain ⟨cs', hc, ht'⟩ := hi i him
    rw [hC] at hc
    obtain ⟨ys, n', hn', hy, hlen, hyl, hf⟩ := DataW.trod_struct he ht'
    obtain ⟨_, hcl, hat⟩ := World.cells?_some hc
    simp only [Prod.mk.injEq] at hy
    refine ⟨ys, n', hy.1, hy.2, hyl, fun j f hj => ?_⟩
    obtain ⟨ho, hk⟩ := hone_of hone j f hj
    have hjl : j < fs.size := (Array.getElem?_eq_some_iff.1 hj).1
    have hcell := hat j hjl
    have hv : cs'[j]? = some (cs'[j]'(by omega)) := List.getElem?_eq_getElem (by omega)
    have h1 := hf j f hj
    rw [ho, hk] at h1
    have hone' : (cs'.drop j).take 1 = [cs'[j]'(by omega)] := by
      rw [List.drop_eq_getElem_cons (by omega)]
      rfl
    rw [hone'] at h1
    have hys : ys[j]? = some (ys[j]'(by omega)) := List.getElem?_eq_getElem (by omega)
    refine ⟨_, _, ?_, hys, h1.trans hys⟩
    rw [← Go.Deep.add_add, hcell, hv]
end

theorem list_of {P : Nat → E → Prop} (n : Nat) (h : ∀ i, i < n → ∃ x, P i x) : ∃ l : List E, l.length = n ∧ ∀ i x, l[i]? = some x → P i x := by
  induction n with
  | zero => exact ⟨[], rfl, fun i x hx => by simp at hx⟩
  | succ n ih =>
    obtain ⟨l, hl, hp⟩ := ih fun i hi => h i (by omega)
    obtain ⟨y, hy⟩ := h n (by omega)
    refine ⟨l ++ [y], by simp [hl], fun i x hx => ?_⟩
    by_cases hi : i < n
    · rw [List.getElem?_append_left (by omega)] at hx
      exact hp i x hx
    · have hlt := (List.getElem?_eq_some_iff.1 hx).1
      simp [hl] at hlt
      obtain rfl : i = n := by omega
      rw [List.getElem?_append_right (by omega), hl] at hx
      simp at hx
      rw [← hx]
      exact hy
section
variable {H : Type} {enc : TypeId × Value → H} {w : World}
theorem fields3 {fs : Array Field} (h : Try.prog.underlying 32 = some (.struct fs)) : fs.size = 3 ∧ ∀ j, j < 3 → ∃ f : Field, fs[j]? = some f ∧ f.type = 3 := by
  rw [Try.underlying32] at h
  injection h with h
  injection h with h
  subst h
  refine ⟨rfl, fun j hj => ?_⟩
  match j, hj with
  | 0, _ => exact ⟨_, rfl, rfl⟩
  | 1, _ => exact ⟨_, rfl, rfl⟩
  | 2, _ => exact ⟨_, rfl, rfl⟩
set_option maxRecDepth 100000 in
theorem open_extents {a : Option Addr} {len cap fuel : Nat} {x : DataW H × List MemPlace} (h : DataW.trod enc Try.prog w 0 (fun _ => true) true fuel 34 [.slice a len cap] = some x) :
    ∃ l : List E, l.length = len ∧ (len ≤ 9223372036854775807 ∧ len ≤ cap ∧ cap ≤ 9223372036854775807) ∧ (len ≤ 46912496118443 → Rd w a l) ∧ wfL l := by
  rcases open_slice_fields Try.underlying34 Try.underlying32 (by kernel_rfl) (by kernel_rfl) h with ⟨hcs, _⟩ | ⟨ad, len', cap', m, D, Pl, hcs, hb, hl, hm, hmm, hx, hi⟩
  · simp at hcs
    obtain ⟨rfl, rfl, rfl⟩ := hcs
    exact ⟨[], rfl, ⟨by omega, by omega, by omega⟩, fun hb => ⟨hb, .inl rfl⟩, fun x hx => by simp at hx⟩
  · simp at hcs
    obtain ⟨rfl, rfl, rfl⟩ := hcs
    simp only [if_true] at hmm
    subst hmm
    obtain ⟨l, hlen, hp⟩ := list_of (P := fun i x => (w.cell? (ad.add (i * 3 + 0)) = some (.int .i64 x.a) ∧ w.cell? (ad.add (i * 3 + 1)) = some (.int .i64 x.n) ∧ w.cell? (ad.add (i * 3 + 2)) = some (.int .i64 x.s)) ∧ x.wf) len (fun i hlt => by
      obtain ⟨ys, n, _, _, hys, hf⟩ := hi i (by omega)
      obtain ⟨v0, y0, k0, _, t0⟩ := hf 0 _ rfl
      obtain ⟨v1, y1, k1, _, t1⟩ := hf 1 _ rfl
      obtain ⟨v2, y2, k2, _, t2⟩ := hf 2 _ rfl
      obtain ⟨n0, e0, _, w0⟩ := DataW.trod_int Try.underlying3 t0
      obtain ⟨n1, e1, _, w1⟩ := DataW.trod_int Try.underlying3 t1
      obtain ⟨n2, e2, _, w2⟩ := DataW.trod_int Try.underlying3 t2
      simp at e0 e1 e2
      subst e0 e1 e2
      exact ⟨⟨n0, n1, n2⟩, ⟨k0, k1, k2⟩, bounds_i64 w0, bounds_i64 w1, bounds_i64 w2⟩)
    refine ⟨l, hlen, by unfold maxLen at hm; exact ⟨by omega, hl, by omega⟩, fun hb => ⟨by omega, ?_⟩, fun x hx => ?_⟩
    · by_cases h0 : l = []
      · exact .inl h0
      · refine .inr ?_
        obtain ⟨b, off, spot⟩ := ad
        have h00 : 0 < l.length := by
          cases l with
          | nil => exact absurd rfl h0
          | cons x r => simp
        have hc := (hp 0 _ (List.getElem?_eq_getElem h00)).1.1
        have hspot : spot = none := by simpa [Addr.add] using World.cell?_spot hc
        subst hspot
        refine ⟨b, off, rfl, fun k x hk => ?_⟩
        obtain ⟨⟨c0, c1, c2⟩, _⟩ := hp k x hk
        have hadd : ∀ j, (⟨b, off, none⟩ : Addr).add j = ⟨b, off + j, none⟩ := fun j => by unfold Addr.add; split <;> simp_all
        rw [hadd] at c0 c1 c2
        exact ⟨by simpa using c0, by rw [Nat.add_assoc]; exact c1, by rw [Nat.add_assoc]; exact c2⟩
    · obtain ⟨i, hi'⟩ := List.mem_iff_getElem?.1 hx
      exact (hp i x hi').2
end
end Go.Proofs.Ytnfaciageadlkaa

namespace Go.Proofs.Ytnfaciageadlkaa
set_option linter.unusedSimpArgs false
set_option linter.unusedVariables false
set_option maxRecDepth 100000
open Go.RowKit


theorem within_is (a n s : Int) (w : World) (r : Bool) (hr : withinB a n s = r) (ha : -9223372036854775808 ≤ a) (ha' : a ≤ 9223372036854775807) (hs0 : 0 ≤ s) (hs : s ≤ 100000) :
    Calls Try.prog 33 #[.int .i64 a, .int .i64 n, .int .i64 s] w fun e w' => e = .returned (.bool r) ∧ w = w' := by
  subst hr
  exact within_any a n s w ha ha' hs0 hs
/-- A list and its error. -/
def Listed (w : World) (l : List E) (e : Ending) (w' : World) : Prop := ∃ v, e = .returned (.tuple #[v, .int .i64 0]) ∧ OwnE w' w.heap.size v l ∧ Below w.heap.size w w'
def Refused (w : World) (e : Ending) (w' : World) : Prop := e = .returned (.tuple #[.slice none 0 0, .int .i64 1]) ∧ Below w.heap.size w w'






end Go.Proofs.Ytnfaciageadlkaa

namespace Go.Proofs.Ytnfaciageadlkaa
set_option linter.unusedSimpArgs false
set_option linter.unusedVariables false
set_option maxRecDepth 100000
open Go.RowKit

theorem newE (W : World) (n : Nat) (hn : n = W.heap.size) (x : E) (t : TypeId) : ∀ j u, (E.cells x)[j]? = some u → (W.alloc (.cells #[.int .i64 x.a, .int .i64 x.n, .int .i64 x.s] t)).cell? ((⟨n, 0, none⟩ : Addr).add j) = some u := by
  subst hn
  intro j u hj
  match j, hj with
  | 0, hj => simp [E.cells] at hj; subst hj; simp [Addr.add]
  | 1, hj => simp [E.cells] at hj; subst hj; simp [Addr.add]
  | 2, hj => simp [E.cells] at hj; subst hj; simp [Addr.add]
theorem cellsE_one (x : E) : ∀ u ∈ E.cells x, u.oneCell' = true := by
  intro u hu
  simp [E.cells] at hu
  rcases hu with rfl | rfl | rfl <;> rfl






end Go.Proofs.Ytnfaciageadlkaa
