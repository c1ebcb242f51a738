/-
  Plain mathematics of lists of extents: validity, normal forms. No program in sight.
  Extents as the model has them; the contracts of the small functions of package extent and of its specification.
  Lists of extents that a call owns; extent.push.
  Arguments opened: lists of extents, extents by value.
  A pair of ints opened.
  Conditions: as each theorem says.
-/
import Derived.Test.YtbiecglooagmmaaSA
import Derived.Test.YtbiecglooagmmaaRows
import Derived.Lib.Hide
import Derived.ProofKit
import Derived.OpenShut
import Derived.ShutString
import Derived.ChangeOld
import Derived.Below
import Derived.Deep.Slices
import Derived.Deep.Fields
import Derived.ChangeSame
import Derived.Lib.SmallJoins
namespace Go.Proofs.Ytbiecglooagmmaa
set_option linter.unusedSimpArgs false
set_option linter.unusedVariables false
set_option maxRecDepth 100000

def withinB (a n s : Int) : Bool := decide (0 ≤ a ∧ 0 ≤ n ∧ a ≤ s ∧ n ≤ s - a)
def properB (a n s : Int) : Bool := decide (1 ≤ n) && (withinB a n 65536 && withinB s n 65536)
theorem properB_iff (a n s : Int) : properB a n s = true ↔ 1 ≤ n ∧ 0 ≤ a ∧ 0 ≤ s ∧ a + n ≤ 65536 ∧ s + n ≤ 65536 := by
  simp only [properB, withinB, Bool.and_eq_true, decide_eq_true_eq]; omega

/-! ### Lists of extents in memory -/
structure E where
  a : Int
  n : Int
  s : Int
/-- Every number of an extent is an int. -/
def E.wf (x : E) : Prop := (-9223372036854775808 ≤ x.a ∧ x.a ≤ 9223372036854775807) ∧ (-9223372036854775808 ≤ x.n ∧ x.n ≤ 9223372036854775807) ∧ (-9223372036854775808 ≤ x.s ∧ x.s ≤ 9223372036854775807)
def wfL (l : List E) : Prop := ∀ x ∈ l, x.wf

def okB (x : E) : Bool := properB x.a x.n x.s
/-- The list is valid from a first block on. -/
def validFrom : Int → List E → Bool
  | _, [] => true
  | e, x :: r => okB x && (decide (e ≤ x.a) && validFrom (x.a + x.n) r)
def validB (l : List E) : Bool := validFrom 0 l

/-- In a valid list: the k-th. -/
def lastEnd (l : List E) : Int := (l.getLast?.map fun x => x.a + x.n).getD 0
theorem validFrom_snoc (l : List E) (x : E) : ∀ e, validFrom e (l ++ [x]) = (validFrom e l && (okB x && decide ((l.getLast?.map fun y => y.a + y.n).getD e ≤ x.a))) := by
  induction l with
  | nil => intro e; simp [validFrom]; rfl
  | cons y r ih =>
    intro e
    simp only [List.cons_append, validFrom, ih, Bool.and_assoc]
    cases r with
    | nil => simp [validFrom]; rfl
    | cons z r => simp [List.getLast?_cons]
theorem validB_take (l : List E) (k : Nat) (h : k < l.length) : validB (l.take (k + 1)) = (validB (l.take k) && (okB l[k] && decide (((l.take k).getLast?.map fun y => y.a + y.n).getD 0 ≤ l[k].a))) := by
  rw [List.take_succ_eq_append_getElem h]
  exact validFrom_snoc _ _ _
theorem validB_zero (l : List E) (h : 0 < l.length) : validB (l.take (0 + 1)) = okB l[0] := by
  rw [validB_take l 0 h, Bool.eq_iff_iff]
  generalize l[0] = x
  simp only [List.take_zero, validB, validFrom, okB, properB_iff, Bool.and_eq_true, Bool.true_and, List.getLast?_nil, Option.map_none, Option.getD_none]
  constructor
  · exact fun h => h.1
  · exact fun h => ⟨h, decide_eq_true h.2.1⟩
theorem validB_zero' (l : List E) (k : Nat) (h0 : k ≤ 0) (h : k < l.length) : validB (l.take (k + 1)) = okB l[k] := by
  obtain rfl : k = 0 := by omega
  exact validB_zero l h
theorem validB_succ (l : List E) (k : Nat) (h : k < l.length) (h0 : 0 < k) : validB (l.take (k + 1)) = (validB (l.take k) && (okB l[k] && decide (l[k - 1].a + l[k - 1].n ≤ l[k].a))) := by
  rw [validB_take l k h]
  have : (l.take k).getLast? = some l[k - 1] := by
    rw [List.getLast?_eq_getElem?, List.length_take, Nat.min_eq_left (Nat.le_of_lt h), List.getElem?_take, if_pos (by omega), List.getElem?_eq_getElem (by omega)]
  rw [this]; rfl
theorem validB_mono (l : List E) : ∀ k, validB l = true → validB (l.take k) = true := by
  have key : ∀ (l : List E) k e, validFrom e l = true → validFrom e (l.take k) = true := by
    intro l
    induction l with
    | nil => intro k e; simp
    | cons x r ih =>
      intro k e h
      cases k with
      | zero => simp [validFrom]
      | succ k =>
        simp only [List.take_succ_cons, validFrom, Bool.and_eq_true] at h ⊢
        exact ⟨h.1, h.2.1, ih _ _ h.2.2⟩
  exact fun k h => key l k 0 h
theorem validB_false (l : List E) (k : Nat) (h : validB (l.take k) = false) : validB l = false := by
  cases hv : validB l with
  | false => rfl
  | true => rw [validB_mono l k hv] at h; exact h


theorem validFrom_ok (l : List E) : ∀ e, validFrom e l = true → ∀ x ∈ l, okB x = true := by
  induction l with
  | nil => intro e _ x hx; cases hx
  | cons y r ih =>
    intro e h x hx
    simp only [validFrom, Bool.and_eq_true] at h
    rcases List.mem_cons.1 hx with rfl | hx
    · exact h.1
    · exact ih _ h.2.2 x hx
theorem validB_ok {l : List E} (h : validB l = true) : ∀ x ∈ l, okB x = true := validFrom_ok l 0 h
theorem okB_iff (x : E) : okB x = true ↔ 1 ≤ x.n ∧ 0 ≤ x.a ∧ 0 ≤ x.s ∧ x.a + x.n ≤ 65536 ∧ x.s + x.n ≤ 65536 := properB_iff _ _ _
theorem take_ok {l : List E} {k j : Nat} (h : validB (l.take k) = true) (hj : j < k) (hl : j < l.length) : okB l[j] = true := by
  refine validB_ok h _ ?_
  rw [List.mem_iff_getElem?]
  exact ⟨j, by rw [List.getElem?_take, if_pos hj]; exact List.getElem?_eq_getElem hl⟩

/-! ### Normal forms -/
/-- Two neighbours that are one. -/
def meets (y x : E) : Bool := decide (y.a + y.n = x.a) && decide (y.s + y.n = x.s)
def E.longer (y : E) (n : Int) : E := ⟨y.a, y.n + n, y.s⟩
/-- An extent behind a normal form. -/
def pushL (l : List E) (x : E) : List E :=
  match l.getLast? with
  | some y => if meets y x then l.dropLast ++ [y.longer x.n] else l ++ [x]
  | none => [x]
def joinL (l : List E) : List E := l.foldl pushL []
theorem pushL_nil (x : E) : pushL [] x = [x] := rfl
theorem pushL_yes (l : List E) (y x : E) (h : meets y x = true) : pushL (l ++ [y]) x = l ++ [y.longer x.n] := by
  simp [pushL, h]
theorem pushL_no (l : List E) (y x : E) (h : meets y x = false) : pushL (l ++ [y]) x = l ++ [y] ++ [x] := by
  simp [pushL, h]
theorem snoc_of (l : List E) (h : l ≠ []) : ∃ l' y, l = l' ++ [y] := ⟨l.dropLast, l.getLast h, (List.dropLast_concat_getLast h).symm⟩
theorem pushL_length (l : List E) (x : E) : (pushL l x).length ≤ l.length + 1 := by
  by_cases h : l = []
  · subst h; simp [pushL]
  · obtain ⟨l', y, rfl⟩ := snoc_of l h
    cases hm : meets y x
    · rw [pushL_no _ _ _ hm]; simp
    · rw [pushL_yes _ _ _ hm]; simp
theorem pushL_ok (l : List E) (x : E) (hl : ∀ y ∈ l, okB y = true) (hx : okB x = true) : ∀ y ∈ pushL l x, okB y = true := by
  by_cases h : l = []
  · subst h; intro y hy; simp [pushL] at hy; rw [hy]; exact hx
  · obtain ⟨l', z, rfl⟩ := snoc_of l h
    intro y hy
    cases hm : meets z x
    · rw [pushL_no _ _ _ hm] at hy
      rcases List.mem_append.1 hy with hy | hy
      · exact hl y hy
      · simp at hy; rw [hy]; exact hx
    · rw [pushL_yes _ _ _ hm] at hy
      rcases List.mem_append.1 hy with hy | hy
      · exact hl y (List.mem_append_left _ hy)
      · simp at hy
        rw [hy]
        have h1 := hl z (by simp)
        simp only [meets, Bool.and_eq_true, decide_eq_true_eq] at hm
        rw [okB_iff] at h1 hx ⊢
        simp only [E.longer]
        omega

theorem joinL_snoc (l : List E) (x : E) : joinL (l ++ [x]) = pushL (joinL l) x := by simp [joinL]
theorem joinL_take (l : List E) (k : Nat) (h : k < l.length) : joinL (l.take (k + 1)) = pushL (joinL (l.take k)) l[k] := by
  rw [List.take_succ_eq_append_getElem h, joinL_snoc]
theorem snoc_ind {P : List E → Prop} (h0 : P []) (h1 : ∀ l x, P l → P (l ++ [x])) (l : List E) : P l := by
  have : ∀ n (l : List E), l.length = n → P l := by
    intro n
    induction n with
    | zero => intro l hl; rw [List.eq_nil_of_length_eq_zero hl]; exact h0
    | succ n ih =>
      intro l hl
      obtain ⟨l', y, rfl⟩ := snoc_of l (by intro e; rw [e] at hl; simp at hl)
      exact h1 _ _ (ih _ (by simp at hl; omega))
  exact this _ l rfl
theorem joinL_length (l : List E) : (joinL l).length ≤ l.length := by
  induction l using snoc_ind with
  | h0 => simp [joinL]
  | h1 l x ih =>
    rw [joinL_snoc]
    have := pushL_length (joinL l) x
    simp
    omega
theorem joinL_ok (l : List E) : (∀ x ∈ l, okB x = true) → ∀ x ∈ joinL l, okB x = true := by
  induction l using snoc_ind with
  | h0 => intro _ x hx; simp [joinL] at hx
  | h1 l x ih =>
    intro h
    rw [joinL_snoc]
    exact pushL_ok _ _ (ih fun y hy => h y (List.mem_append_left _ hy)) (h x (by simp))

end Go.Proofs.Ytbiecglooagmmaa

namespace Go.Proofs.Ytbiecglooagmmaa
set_option linter.unusedSimpArgs false
set_option linter.unusedVariables false
set_option maxRecDepth 100000
open Go.RowKit

theorem ret_bool {a b : Bool} (h : a = true ↔ b = true) : Ending.returned (.bool a) = .returned (.bool b) := by rw [Bool.eq_iff_iff.2 h]
theorem ret_int {k : IntKind} {a b : Int} (h : a = b) : Ending.returned (.int k a) = .returned (.int k b) := by rw [h]



/-- The element k of a list, as cells behind ⟨b, o⟩. -/
structure At (w : World) (b o : Nat) (k : Nat) (x : E) : Prop where
  a : w.cell? ⟨b, o + k * 3, none⟩ = some (.int .i64 x.a)
  n : w.cell? ⟨b, o + k * 3 + 1, none⟩ = some (.int .i64 x.n)
  s : w.cell? ⟨b, o + k * 3 + 2, none⟩ = some (.int .i64 x.s)
/-- The slice 'a, length' reads as the list l. -/
def Rd (w : World) (a : Option Addr) (l : List E) : Prop :=
  l.length ≤ 46912496118443 ∧ (l = [] ∨ ∃ b o, a = some ⟨b, o, none⟩ ∧ ∀ k x, l[k]? = some x → At w b o k x)

theorem At.keep {w w' : World} (h : Below w.heap.size w w') {b o k : Nat} {x : E} (ha : At w b o k x) : At w' b o k x := ⟨h.keep ha.a, h.keep ha.n, h.keep ha.s⟩
theorem Rd.keep {w w' : World} (h : Below w.heap.size w w') {a : Option Addr} {l : List E} (hr : Rd w a l) : Rd w' a l :=
  ⟨hr.1, hr.2.imp id fun ⟨b, o, ha, hat⟩ => ⟨b, o, ha, fun k x hk => (hat k x hk).keep h⟩⟩
theorem Rd.at {w : World} {a : Option Addr} {l : List E} (hr : Rd w a l) (h : 0 < l.length) : ∃ b o, a = some ⟨b, o, none⟩ ∧ ∀ k x, l[k]? = some x → At w b o k x :=
  hr.2.resolve_left (by intro e; rw [e] at h; simp at h)


end Go.Proofs.Ytbiecglooagmmaa

namespace Go.Proofs.Ytbiecglooagmmaa
set_option linter.unusedSimpArgs false
set_option linter.unusedVariables false
set_option maxRecDepth 100000
open Go.RowKit

def E.cells (x : E) : List Value := [.int .i64 x.a, .int .i64 x.n, .int .i64 x.s]
def cellsL (l : List E) : List Value := l.flatMap E.cells
theorem cellsL_length (l : List E) : (cellsL l).length = l.length * 3 := by
  induction l with
  | nil => rfl
  | cons x r ih => simp only [cellsL, List.flatMap_cons, List.length_append, List.length_cons] at ih ⊢; rw [ih]; simp [E.cells]; omega
theorem cellsL_append (l r : List E) : cellsL (l ++ r) = cellsL l ++ cellsL r := by simp [cellsL]
theorem cellsL_get (l : List E) : ∀ (k : Nat) (x : E), l[k]? = some x → (cellsL l)[k * 3]? = some (.int .i64 x.a) ∧ (cellsL l)[k * 3 + 1]? = some (.int .i64 x.n) ∧ (cellsL l)[k * 3 + 2]? = some (.int .i64 x.s) := by
  induction l with
  | nil => intro k x h; simp at h
  | cons y r ih =>
    intro k x h
    cases k with
    | zero => simp at h; subst h; simp [cellsL, E.cells]
    | succ k =>
      obtain ⟨h1, h2, h3⟩ := ih k x (by simpa using h)
      have e : cellsL (y :: r) = [.int .i64 y.a, .int .i64 y.n, .int .i64 y.s] ++ cellsL r := rfl
      rw [e]
      refine ⟨?_, ?_, ?_⟩
      · rw [List.getElem?_append_right (by simp; omega), ← h1]; congr 1; simp; omega
      · rw [List.getElem?_append_right (by simp; omega), ← h2]; congr 1; simp; omega
      · rw [List.getElem?_append_right (by simp; omega), ← h3]; congr 1; simp; omega
theorem cellsL_one (l : List E) : ∀ u ∈ cellsL l, u.oneCell' = true := by
  intro u hu
  simp only [cellsL, List.mem_flatMap, E.cells] at hu
  obtain ⟨x, _, hx⟩ := hu
  simp at hx
  rcases hx with rfl | rfl | rfl <;> rfl



theorem cellsL_longer (l : List E) (y : E) (n : Int) : (cellsL (l ++ [y])).set (l.length * 3 + 1) (.int .i64 (y.n + n)) = cellsL (l ++ [y.longer n]) := by
  rw [cellsL_append, cellsL_append, List.set_append_right _ _ (by rw [cellsL_length]; omega), cellsL_length, show l.length * 3 + 1 - l.length * 3 = 1 by omega]
  rfl






end Go.Proofs.Ytbiecglooagmmaa

namespace Go.Proofs.Ytbiecglooagmmaa
set_option linter.unusedSimpArgs false
set_option linter.unusedVariables false
set_option maxRecDepth 100000
open Go.ChangeShapes Go.WideShapes Go.ChangeAt Go.RowKit Go.Deep

theorem own : ownKnob Try.prog.godebug = none := by kernel_rfl
theorem laidOut : laidOutB Try.prog = true := by kernel_rfl

section
variable {H : Type} {enc : TypeId × Value → H} {P : Program} {w : World} {base : Nat} {spare : Nat → Bool} {held : Bool}
theorem open_slice_fields {t e : TypeId} {fs : Array Field} {fuel : Nat} {cs : List Value} {x : DataW H × List MemPlace} (ht : P.underlying t = some (.slice e)) (he : P.underlying e = some (.struct fs))
    (hone : oneCellFields P fs = true) (hC : P.cellsOf e = fs.size) (h : DataW.trod enc P w base spare held fuel t cs = some x) :
    (cs = [.slice none 0 0] ∧ x = (.nil, [])) ∨
    ∃ (a : Addr) (len cap m : Nat) (D : Nat → DataW H) (Pl : Nat → List MemPlace), cs = [.slice (some a) len cap] ∧ base ≤ a.block ∧ len ≤ cap ∧ cap ≤ maxLen ∧ m = (if spare a.block then cap else len) ∧
      x = (.slice ((List.range len).map D) ((List.range (m - len)).map fun j => D (len + j)), MemPlace.row a (m * fs.size) ++ (List.range m).flatMap Pl) ∧
      ∀ i, i < m → ∃ (ys : List (DataW H × List MemPlace)) (n : Nat), D i = .agg (ys.map (·.1)) ∧ Pl i = ys.flatMap (·.2) ∧ ys.length = fs.size ∧
        ∀ (j : Nat) (f : Field), fs[j]? = some f → ∃ (v : Value) (y : DataW H × List MemPlace), w.cell? (a.add (i * fs.size + j)) = some v ∧ ys[j]? = some y ∧ DataW.trod enc P w base spare held n f.type [v] = some y := by
  rcases open_slice ht h with h0 | ⟨a, len, cap, m, n, D, Pl, hcs, hb, hl, hm, hmm, hx, hi⟩
  · exact .inl h0
  · refine .inr ⟨a, len, cap, m, D, Pl, hcs, hb, hl, hm, hmm, by rw [hC] at hx; exact hx, fun i him => ?_⟩
    obtain ⟨cs', hc, ht'⟩ := hi i him
    rw [hC] at hc
    obtain ⟨ys, n', hn', hy, hlen, hyl, hf⟩ := DataW.trod_struct he ht'
    obtain ⟨_, hcl, hat⟩ := World.cells?_some hc
    simp only [Prod.mk.injEq] at hy
    refine ⟨ys, n', hy.1, hy.2, hyl, fun j f hj => ?_⟩
    obtain ⟨ho, hk⟩ := hone_of hone j f hj
    have hjl : j < fs.size := (Array.getElem?_eq_some_iff.1 hj).1
    have hcell := hat j hjl
    have hv : cs'[j]? = some (cs'[j]'(by omega)) := List.getElem?_eq_getElem (by omega)
    have h1 := hf j f hj
    rw [ho, hk] at h1
    have hone' : (cs'.drop j).take 1 = [cs'[j]'(by omega)] := by
      rw [List.drop_eq_getElem_cons (by omega)]
      rfl
    rw [hone'] at h1
    have hys : ys[j]? = some (ys[j]'(by omega)) := List.getElem?_eq_getElem (by omega)
    refine ⟨_, _, ?_, hys, h1.trans hys⟩
    rw [← Go.Deep.add_add, hcell, hv]
end

theorem list_of {P : Nat → E → Prop} (n : Nat) (h : ∀ i, i < n → ∃ x, P i x) : ∃ l : List E, l.length = n ∧ ∀ i x, l[i]? = some x → P i x := by
  induction n with
  | zero => exact ⟨[], rfl, fun i x hx => by simp at hx⟩
  | succ n ih =>
    obtain ⟨l, hl, hp⟩ := ih fun i hi => h i (by omega)
    obtain ⟨y, hy⟩ := h n (by omega)
    refine ⟨l ++ [y], by simp [hl], fun i x hx => ?_⟩
    by_cases hi : i < n
    · rw [List.getElem?_append_left (by omega)] at hx
      exact hp i x hx
    · have hlt := (List.getElem?_eq_some_iff.1 hx).1
      simp [hl] at hlt
      obtain rfl : i = n := by omega
      rw [List.getElem?_append_right (by omega), hl] at hx
      simp at hx
      rw [← hx]
      exact hy
section
variable {H : Type} {enc : TypeId × Value → H} {w : World}
end
end Go.Proofs.Ytbiecglooagmmaa

namespace Go.Proofs.Ytbiecglooagmmaa
set_option linter.unusedSimpArgs false
set_option linter.unusedVariables false
set_option maxRecDepth 100000
open Go.ChangeShapes Go.WideShapes Go.ChangeAt Go.RowKit Go.Deep

section
variable {H : Type} {enc : TypeId × Value → H} {w : World}
theorem pair_size17 {cs : Array Value} (h : cs.size = 2) : ∃ c0 c1, cs = #[c0, c1] := by
  obtain ⟨l⟩ := cs
  match l, h with
  | [c0, c1], _ => exact ⟨c0, c1, rfl⟩
set_option maxRecDepth 100000 in
theorem open_pair17 {r : Reach} {b0 : Nat} {v : Value} {d : DataW H} {p : List MemPlace} (hv : Value.okWide Try.prog w r b0 52 v) (h : DataW.Trod enc Try.prog w 0 (fun _ => true) true 52 v d p) :
    ∃ f n : Int, v = .agg #[.int .i64 f, .int .i64 n] := by
  have hce : Try.prog.cellsOf 3 = 1 := by kernel_rfl
  obtain ⟨cs, rfl, hsz, _⟩ : ∃ cs, v = .agg cs ∧ cs.size = Try.prog.cellsOf 52 ∧ Row.okWide Try.prog w r b0 52 cs := by
    simpa [Value.okWide, Try.underlying52] using hv
  rw [show Try.prog.cellsOf 52 = 2 by kernel_rfl] at hsz
  obtain ⟨c0, c1, rfl⟩ := pair_size17 hsz
  obtain ⟨fuel, hf⟩ := h
  obtain ⟨xs, m, _, _, _, hl, hel⟩ := DataW.trod_array Try.underlying52 hf
  have e0 := hel 0 (by omega)
  have e1 := hel 1 (by omega)
  rw [hce] at e0 e1
  have x0 : xs[0]? = some (xs[0]'(by omega)) := List.getElem?_eq_getElem (by omega)
  have x1 : xs[1]? = some (xs[1]'(by omega)) := List.getElem?_eq_getElem (by omega)
  obtain ⟨n0, k0, _, w0⟩ := DataW.trod_int Try.underlying3 (e0.trans x0)
  obtain ⟨n1, k1, _, w1⟩ := DataW.trod_int Try.underlying3 (e1.trans x1)
  simp [Value.cells] at k0 k1
  subst k0 k1
  exact ⟨n0, n1, rfl⟩
end
end Go.Proofs.Ytbiecglooagmmaa
