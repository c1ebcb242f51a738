/-
  The world after more memory was made: 'w.next u'. A region whose operations read old memory and call functions that only make memory: one walk of the text's order serves every order, and a forced tail follows it.
  Plain mathematics of lists of extents: validity, normal forms. No program in sight.
  Plain mathematics: the blocks of a list, finding a block, parts of extents.
  Plain mathematics: what Cut leaves and removes, as the normal forms of the parts of a list.
  Plain mathematics: what a list maps, unchanged by joining; divided and changed extents.
  Plain mathematics: what Put leaves.
  Plain mathematics: a normal form is told by the slots alone; what Put and Cut map.
  Plain mathematics: the runs of the slots of extents.
  Plain laws on counts of slots: what Add and Drop make of them, and the runs of single slots.
  Plain laws on how many slots a test picks, and on the sizes of runs.
  Plain laws on slots that were listed: marks as a function, what is seen behind some rounds.
  Plain laws on extent trees: what a division leaves, normal lists.
  Plain laws: how often a slot is listed, over parts, joins, Put and Cut; lists inside a volume.
  Plain laws: families of volumes, their counts, what a change frees; a family stays sound.
  Conditions: as each theorem says.
-/
import Derived.WalkKit
import Derived.WalkSpells
import Derived.WalkLawsBesides
import Derived.Deep.Quiet
import Derived.BigQuiet
import Derived.StillTailTactics
import Derived.WideShapes
namespace Go
set_option linter.unusedSimpArgs false
set_option linter.unusedVariables false
set_option maxRecDepth 100000
abbrev OA := Option Addr
abbrev LU := List UInt8
abbrev Wd := World
/-! Side facts that pay themselves. -/
theorem oM {p : Prop} (h : p := by omega) : p := h
theorem kR {p : Prop} (h : p := by kernel_rfl) : p := h
theorem sM {p : Prop} (h : p := by simp) : p := h
theorem aS {p : Prop} (h : p := by assumption) : p := h
theorem dE {p : Prop} (h : p := by decide) : p := h
theorem sO {p : Prop} (h : p := by simp only; omega) : p := h
theorem pO {p : Prop} (h : p := by simp; omega) : p := h
theorem bL {p : Prop} (h : p := by repeat (first | exact Below.refl _ _ | assumption | refine Below.onNext ?_ _ | refine Below.onAlloc ?_ _ | refine Below.setCell ?_ (by simp) _ | refine Below.drew ?_)) : p := h
/-- A fact with a number (for looking which facts a proof uses). -/
theorem tG9 (n : Nat) {p : Prop} (h : p) : p := h
theorem bR {B : Nat} {w : World} : RowKit.Below B w w := RowKit.Below.refl _ _
theorem bQ (w : World) : RowKit.Below w.heap.size w w := RowKit.Below.refl _ _
theorem hD {p : Prop} (h : p) : RowKit.Hid p := h
theorem Calls.m {P : Program} {f : Nat} {args : Array Value} {w : World} {R Q : Ending → World → Prop} (h : Calls P f args w R) (k : ∀ e w', R e w' → Q e w') : Calls P f args w Q := h.mono k
-- ALIASES
abbrev Qa := @List.getElem?_eq_getElem
abbrev Qb := @World.frozen?_setCell
abbrev Qc := @decide_eq_true_eq
abbrev Qd := @Bool.and_eq_true
abbrev Qe := @if_neg
abbrev Qf := @if_pos
abbrev Qg := @List.length_append
abbrev Qh := @List.take_succ_eq_append_getElem
abbrev Qi := @World.cell?_setCell_same
abbrev Qj := @World.block_lt_of_cell?
abbrev Qk := @World.cell?_setCell_other
abbrev Ql := @List.getD_eq_getElem?_getD
abbrev Qm := @List.getElem_mem
abbrev Qn := @List.mem_append
abbrev Qo := @decide_eq_true
abbrev Qp := @decide_eq_false
abbrev Qq := @List.take_of_length_le
abbrev Qr := @Int.eq_ofNat_of_zero_le
abbrev Qt := @of_decide_eq_true
abbrev Qu := @World.ownsRow.alloc
abbrev Qv := @Option.some.inj
abbrev Qw := @Bool.eq_iff_iff
abbrev Qx := @List.getElem?_eq_some_iff
abbrev Qy := @decide_eq_false_iff_not
abbrev Qz := @List.eq_nil_of_length_eq_zero
abbrev Ya := @World.cell?_alloc_lt
abbrev Yb := @List.pairwise_append
abbrev Yc := @List.append_assoc
abbrev Yd := @List.mem_map
abbrev Ye := @Nat.le_refl
abbrev Yf := @Nat.zero_le
abbrev Yg := @bodyPost_ret
abbrev Yh := @of_decide_eq_false
abbrev Yk := @List.pairwise_cons
abbrev Yl := @List.mem_cons
abbrev Ym := @List.getElem?_append_left
abbrev Yn := @Array.getElem?_push_size
abbrev Yo := @Bool.and_eq_false_iff
abbrev Yp := @List.length_take
abbrev Yr := @List.mem_map_of_mem
abbrev Ys := @World.ownsRow.cellAt
abbrev Yt := @List.length_replicate
abbrev Yu := @Nat.lt_of_lt_of_le
abbrev Yv := @Nat.min_eq_left
abbrev Yw := @List.getElem?_map
abbrev Yx := @ByteArray.toList_eq
abbrev Yy := @List.length_map
abbrev Yz := @List.map_append
-- END ALIASES
/-- A call returns this value and writes nothing that was there. -/
abbrev RB (w : World) (v : Value) : Ending → World → Prop := fun e w' => e = .returned v ∧ RowKit.Below w.heap.size w w'
theorem RowKit.Hid.o {p : Prop} (h : RowKit.Hid p) : p := h
open Go.RowKit

open Classical in
/-- The world u where it is w with more blocks behind it (all of w's blocks as they were); else w itself. -/
noncomputable def World.next (w u : World) : World := if Below w.heap.size w u then u else w

theorem World.below_next (w u : World) : Below w.heap.size w (w.next u) := by
  unfold World.next
  split
  · assumption
  · exact Below.refl _ _
theorem World.next_of {w w' : World} (h : Below w.heap.size w w') : w.next w' = w' := by
  unfold World.next
  rw [if_pos h]
theorem World.is_next {w w' : World} (h : Below w.heap.size w w') : ∃ u, w' = w.next u := ⟨w', (World.next_of h).symm⟩
theorem World.next_self (w : World) : w.next w = w := World.next_of (Below.refl _ _)
section
variable (w u : World) (a : Addr)
theorem World.size_next : w.heap.size ≤ (w.next u).heap.size := (World.below_next w u).size
theorem World.cell?_next_lt (h : a.block < w.heap.size) : (w.next u).cell? a = w.cell? a := (World.below_next w u).cell h
theorem World.frozen?_next_lt (h : a.block < w.heap.size) : (w.next u).frozen? a = w.frozen? a := (World.below_next w u).frozen h
@[simp, go_sem] theorem World.cell?_next (h : (w.cell? a).isSome = true) : (w.next u).cell? a = w.cell? a := by
  obtain ⟨v, hv⟩ := Option.isSome_iff_exists.1 h
  exact World.cell?_next_lt _ _ _ (World.block_lt_of_cell? w a hv)
@[simp, go_sem] theorem World.frozen?_next (h : (w.cell? a).isSome = true) : (w.next u).frozen? a = w.frozen? a := by
  obtain ⟨v, hv⟩ := Option.isSome_iff_exists.1 h
  exact World.frozen?_next_lt _ _ _ (World.block_lt_of_cell? w a hv)
@[simp, go_sem] theorem World.tape_next : (w.next u).tape = w.tape := (World.below_next w u).tape
@[simp, go_sem] theorem World.cell?_alloc_is (o : Obj) (h : (w.cell? a).isSome = true) : (w.alloc o).cell? a = w.cell? a := by
  obtain ⟨v, hv⟩ := Option.isSome_iff_exists.1 h
  exact World.cell?_alloc_lt _ _ _ (World.block_lt_of_cell? w a hv)
@[simp, go_sem] theorem World.frozen?_alloc_is (o : Obj) (h : (w.cell? a).isSome = true) : (w.alloc o).frozen? a = w.frozen? a := by
  obtain ⟨v, hv⟩ := Option.isSome_iff_exists.1 h
  exact World.frozen?_alloc_old _ _ _ (Nat.ne_of_lt (World.block_lt_of_cell? w a hv))
theorem World.heap_next (k : Nat) (h : k < w.heap.size) : (w.next u).heap[k]? = w.heap[k]? := (World.below_next w u).block k h
end
theorem RowKit.Below.next {B : Nat} {a w : World} (h : Below B a w) (hB : B ≤ w.heap.size) (u : World) : Below B a (w.next u) :=
  h.trans ((World.below_next w u).mono hB)
/-- A cell that is there stays. -/
theorem RowKit.Below.keep {w w' : World} (h : Below w.heap.size w w') {a : Addr} {v : Value} (hc : w.cell? a = some v) : w'.cell? a = some v := by
  rw [h.cell (World.block_lt_of_cell? w a hc)]; exact hc
theorem RowKit.Below.keepF {w w' : World} (h : Below w.heap.size w w') {a : Addr} {v : Value} (hc : w.cell? a = some v) {b : Bool} (hf : w.frozen? a = b) : w'.frozen? a = b := by
  rw [h.frozen (World.block_lt_of_cell? w a hc)]; exact hf
/-- Step upon step. -/
theorem RowKit.Below.step {B : Nat} {a w w' : World} (h : Below B a w) (hB : B ≤ w.heap.size) (h' : Below w.heap.size w w') : Below B a w' := h.trans (h'.mono hB)
/-- From one's own beginning. -/
theorem RowKit.Below.on {a w w' : World} (h : Below a.heap.size a w) (h' : Below w.heap.size w w') : Below a.heap.size a w' := h.trans (h'.mono h.size)
theorem RowKit.Below.onAlloc {a w : World} (h : Below a.heap.size a w) (o : Obj) : Below a.heap.size a (w.alloc o) := h.alloc h.size o
theorem RowKit.Below.onNext {a w : World} (h : Below a.heap.size a w) (u : World) : Below a.heap.size a (w.next u) := h.on (World.below_next w u)
theorem RowKit.Below.grow {w W w1 : World} {row : Option Nat} (h : Below w.heap.size w W) (hg : W.grownBy w1 row) : w.grownBy w1 row :=
  ⟨hg.os.trans h.os, hg.tape.trans h.tape, hg.output.trans h.output, Nat.le_trans h.size hg.size, fun k hk hne => (hg.block k (Nat.lt_of_lt_of_le hk h.size) hne).trans (h.block k hk)⟩
/-- A world where one row was written, seen from below that row. -/
theorem RowKit.Below.onGrow {a w w' : World} {row : Option Nat} (h : Below a.heap.size a w) (hg : w.grownBy w' row) (hr : ∀ k, row = some k → a.heap.size ≤ k) : Below a.heap.size a w' :=
  h.grown hg h.size hr
/-- What comes behind a world that comes behind w comes behind w. -/
theorem World.next_next (w u v : World) : ∃ x, (w.next u).next v = w.next x :=
  World.is_next ((World.below_next w u).next (World.size_next w u) v)
theorem World.drew_next (w : World) : ∃ x, w.drew = w.next x := World.is_next ((Below.refl _ _).drew)

/-- Own rows stay behind a next world. -/
theorem World.ownsRow.next {w : World} {base : Nat} {e : TypeId} {size : Nat} {v : Value} {n : Nat} {xs : List Value} (h : w.ownsRow base e size v n xs) (u : World) : (w.next u).ownsRow base e size v n xs := by
  have hb := World.below_next w u
  exact h.kept (row := none) ⟨hb.os, hb.tape, hb.output, hb.size, fun k hk _ => hb.block k hk⟩ (by cases hv : v.ownBlock <;> simp)

/-! ### The region -/
section
variable {P : Program} {w : World}
/-- A region that draws its order, every operation of it yielding one value in whatever world behind 'w': one walk of the text's order. -/
theorem wp_region_next {id : Nat} {Q : Exit → Act → World → Prop} {a : Act} {l : List Oper} (hm : P.follows .mixedOrders = true) (hB : Region.lexB .any l.toArray = true)
    (h : wpQuiet P l.toArray (fun w' => ∃ n, w' = w.next n) (fun a' => ∀ w', (∃ n, w' = w.next n) → Q .normal a' w') l a) : (Code.region id l.toArray true).wp P Q a w :=
  wp_region_quiet (C := fun w' => ∃ n, w' = w.next n) hm hB (World.drew_next w) h
/-- A region that does not draw its order. -/
theorem wp_region_next_plain {id : Nat} {Q : Exit → Act → World → Prop} {a : Act} {l : List Oper}
    (h : wpQuiet P l.toArray (fun w' => ∃ n, w' = w.next n) (fun a' => ∀ w', (∃ n, w' = w.next n) → Q .normal a' w') l a) : (Code.region id l.toArray false).wp P Q a w := by
  refine wp_region_lit ?_
  have key : ∀ (l' : List Oper) (a : Act) (w1 : World), (∃ n, w1 = w.next n) → wpQuiet P l.toArray (fun w' => ∃ n, w' = w.next n) (fun a' => ∀ w', (∃ n, w' = w.next n) → Q .normal a' w') l' a → wpList P l.toArray Q l' a w1 := by
    intro l'
    induction l' with
    | nil => intro a w1 hw1 h; exact h w1 hw1
    | cons o rest ih =>
      intro a w1 hw1 h
      refine wpList_step fun K hK => ?_
      unfold wpQuiet at h
      split
      · rename_i hw
        rw [if_pos hw] at h
        exact Oper.wp_of_quiet hw1 (fun a' w' hw' hq => hK _ _ (ih a' w' hw' hq)) h
      · rename_i hw
        rw [if_neg hw] at h
        exact hK _ _ (ih _ _ hw1 h)
  exact key l a w ⟨w, (World.next_self w).symm⟩ h
/-- A callee's contract met in a world behind 'w'. -/
theorem Calls.next_of {f : FuncId} {args : Array Value} {n : World} {v : Value}
    (h : Calls P f args (w.next n) fun e w' => e = .returned v ∧ Below (w.next n).heap.size (w.next n) w') : Calls P f args (w.next n) fun e w'' => e = .returned v ∧ ∃ m, w'' = w.next m :=
  h.mono fun _ _ ⟨he, hb⟩ => ⟨he, World.is_next ((World.below_next w n).trans (hb.mono (World.size_next w n)))⟩
/-- .. of a callee that leaves the world as it was. -/
theorem Calls.next_of_same {f : FuncId} {args : Array Value} {n : World} {v : Value}
    (h : Calls P f args (w.next n) fun e w' => e = .returned v ∧ (w.next n) = w') : Calls P f args (w.next n) fun e w'' => e = .returned v ∧ ∃ m, w'' = w.next m :=
  h.mono fun _ _ ⟨he, hm⟩ => ⟨he, n, hm.symm⟩
end

/-! ### The region with a forced tail -/
section
variable {P : Program} {ops : Array Oper} {md : Region.Mode} {C : World → Prop}
def wpAnyLQ (P : Program) (md : Region.Mode) (ops : Array Oper) (C : World → Prop) (n : Nat) (L : Array Bool → Act → Prop) : Nat → Array Bool → Act → Prop
  | 0, listed, a => L listed a
  | f + 1, listed, a =>
    Region.ready md ops listed ≠ [] ∧ ∀ i ∈ Region.ready md ops listed, i < n ∧ qOp P ops C i (wpAnyLQ P md ops C n L f (listed.setIfInBounds i true)) a
theorem wpAny_of_headQ {n g : Nat} {L : Array Bool → Act → Prop} {Q' : Exit → Act → World → Prop} (hL : ∀ listed a w, C w → L listed a → wpAny P md ops Q' g listed a w) :
    ∀ (f : Nat) (listed : Array Bool) (a : Act) (w : World), C w → wpAnyLQ P md ops C n L f listed a → wpAny P md ops Q' (f + g) listed a w
  | 0, listed, a, w, hw, h => by rw [Nat.zero_add]; exact hL _ _ _ hw h
  | f + 1, listed, a, w, hw, h => by
    rw [show f + 1 + g = (f + g) + 1 by omega]
    exact ⟨fun h0 => absurd h0 h.1, fun i hi => wpOp_of_qOp hw (fun a' w' hw' h' => wpAny_of_headQ hL f _ a' w' hw' h') (h.2 i hi).2⟩
theorem wpAnyLQ_first {n i : Nat} {oi : Oper} {v : Value} {L : Array Bool → Act → Prop} (hi : ops[i]? = some oi) (hsel : ∀ (j : Nat) (o : Oper) cs b, ops[j]? = some o → o.op ≠ .select cs b)
    (hs : Region.sinkB md ops n = true) (hc : Region.chainB md ops n = true) (hn : n < ops.size) (hin : i < n)
    (hdone : ∀ listed a, L listed a → ∀ j ∈ Region.ready md ops listed, n ≤ j) :
    ∀ (f : Nat) (listed : Array Bool) (a : Act), HeadInv md ops n listed →
      (∀ j oj, ops[j]? = some oj → j ≠ i → listed.getD j true = false → (∀ e ∈ oj.after, Region.binds md e = true → e.on ≠ i) → oi.apart ops oj = true) →
      i ∈ Region.ready md ops listed → YieldsIn P ops C oi v a →
      wpAnyLQ P md ops C n L f (listed.setIfInBounds i true) (a.put oi.dst v) → wpAnyLQ P md ops C n L (f + 1) listed a := by
  intro f
  induction f with
  | zero =>
    intro listed a inv _ hr hy H
    have hun := (mem_ready.1 hr).1
    refine ⟨fun h => (by rw [h] at hr; cases hr), fun j hj => ?_⟩
    have hjn : j < n := by
      rcases Nat.lt_or_ge j n with h | h
      · exact h
      · exact absurd hj (tail_waits hs hc hn inv _ i rfl hin hun j h)
    refine ⟨hjn, ?_⟩
    by_cases hji : j = i
    · subst hji; exact hy.qOp hi H
    · have := hdone _ _ H j (ready_mono hj hji)
      omega
  | succ f ih =>
    intro listed a inv hfree hr hy H
    have hun := (mem_ready.1 hr).1
    refine ⟨fun h => (by rw [h] at hr; cases hr), fun j hj => ?_⟩
    have hjn : j < n := by
      rcases Nat.lt_or_ge j n with h | h
      · exact h
      · exact absurd hj (tail_waits hs hc hn inv _ i rfl hin hun j h)
    refine ⟨hjn, ?_⟩
    by_cases hji : j = i
    · subst hji; exact hy.qOp hi H
    · have h1 := (H.2 j (ready_mono hj hji)).2
      obtain ⟨hjun, oj, hoj, hall⟩ := mem_ready.1 hj
      have hnot : ∀ e ∈ oj.after, Region.binds md e = true → e.on ≠ i := fun e he hb heq => by
        have h1 := hall e he hb
        rw [heq, getD_both hun] at h1
        cases h1
      have h2 := qOp_put hoj (hfree j oj hoj hji hjun hnot) (fun cs b => hsel i oi cs b hi) (fun cs b => hsel j oj cs b hoj) hy h1
      have hfree' : ∀ k ok, ops[k]? = some ok → k ≠ i → (listed.setIfInBounds j true).getD k true = false →
          (∀ e ∈ ok.after, Region.binds md e = true → e.on ≠ i) → oi.apart ops ok = true := fun k ok hk hki hun hno => by
        refine hfree k ok hk hki ?_ hno
        by_cases hjk : j = k
        · subst hjk; exact hjun
        · rw [getD_set_ne true hjk] at hun; exact hun
      refine qOp_mono (fun a' h3 => ih (listed.setIfInBounds j true) a' (inv.set hj hjn) hfree' (ready_mono hr (Ne.symm hji)) h3.1 ?_) h2
      rw [Array.setIfInBounds_comm _ _ hji]
      exact h3.2
theorem wpAnyLQ_lex {n g : Nat} {Lq : Act → Prop} (hsel : Region.noSelect ops = true) (hs : Region.sinkB md ops n = true) (hc : Region.chainB md ops n = true) (hn : n < ops.size) :
    ∀ (l : List Oper) (k : Nat) (listed : Array Bool) (a : Act), (∀ j, j < l.length → l[j]? = ops[k + j]?) → k + l.length = n → HeadInv md ops n listed →
    Region.lexHead md ops g l.length k listed = true → wpQuiet P ops C Lq l a →
    wpAnyLQ P md ops C n (fun listed' a' => Region.seqB md ops g n listed' = true ∧ Lq a') l.length listed a
  | [], k, listed, a, _, hk, _, hB, h => by
    have : k = n := by simpa using hk
    subst this
    exact ⟨by simpa [Region.lexHead] using hB, h⟩
  | o :: l, k, listed, a, hl, hk, inv, hB, h => by
    have h0 : ops[k]? = some o := by simpa using (hl 0 (by simp)).symm
    simp only [List.length_cons, Region.lexHead, Bool.and_eq_true] at hB
    obtain ⟨⟨hr, hf⟩, hB'⟩ := hB
    have hkn : k < n := by simp only [List.length_cons] at hk; omega
    have hr' : k ∈ Region.ready md ops listed := by simpa using hr
    have hst : qOp P ops C k (wpQuiet P ops C Lq l) a := by unfold qOp; simp only [h0]; exact h
    obtain ⟨v, hy, hK⟩ := yieldsIn_of_qOp h0 hst
    exact wpAnyLQ_first h0 (Region.noSelect_spec hsel) hs hc hn hkn (fun listed' a' hL => seqB_ready hL.1) l.length listed a inv (Region.free_spec h0 hf) hr' hy
      (wpAnyLQ_lex hsel hs hc hn l (k + 1) _ _ (fun j hj => by have := hl (j + 1) (by simp; omega); simpa [Nat.add_assoc, Nat.add_comm 1 j] using this) (by simp only [List.length_cons] at hk; omega) (inv.set hr' hkn) hB' hK)
theorem wp_region_quiet_tail {id : Nat} {Q : Exit → Act → World → Prop} {a : Act} {w : World} {l : List Oper} (n : Nat) (hm : P.follows .mixedOrders = true) (hB : Region.lexTailB .any l.toArray n = true)
    (hC : C { w with drawn := w.drawn + 1 })
    (h : wpQuiet P l.toArray C (fun a' => ∀ w', C w' → wpList P l.toArray Q (l.drop n) a' w') (l.take n) a) : (Code.region id l.toArray true).wp P Q a w := by
  simp only [Region.lexTailB, Bool.and_eq_true, decide_eq_true_eq] at hB
  obtain ⟨⟨⟨⟨hsel, hn⟩, hs⟩, hc⟩, hlex⟩ := hB
  have hn' : n < l.length := by simpa using hn
  have htl : (l.take n).length = n := by simp; omega
  have hdl : (l.drop n).length = l.toArray.size - n := by simp
  have inv0 : HeadInv .any l.toArray n (Array.replicate l.toArray.size false) :=
    ⟨by simp, fun j oj _ hl => (by rw [getD_replicate_false] at hl; cases hl), fun t _ ht => getD_in (by simpa using ht) (getD_replicate_false _ _)⟩
  have H := wpAnyLQ_lex (C := C) (md := .any) (g := l.toArray.size - n) hsel hs hc hn (l.take n) 0 _ a (fun j hj => by
    have hj' : j < n := by rw [htl] at hj; exact hj
    simp [hj']) (by simpa using htl) inv0 (by rw [htl]; exact hlex) h
  refine wp_region_any hm ?_
  have := wpAny_of_headQ (Q' := Q) (g := l.toArray.size - n) (fun listed a' w' hw' hL => by
    have := wpAny_of_seq (md := .any) (Q' := Q) (l.drop n) n listed a' w' (fun j => by simp [List.getElem?_drop]) (by rw [hdl]; exact hL.1) (hL.2 w' hw')
    rwa [hdl] at this) _ _ _ _ hC H
  rw [htl, show n + (l.toArray.size - n) = l.toArray.size by omega] at this
  exact this
/-- The same at the class of the worlds behind 'w'. -/
theorem wp_region_next_tail {id : Nat} {Q : Exit → Act → World → Prop} {a : Act} {w : World} {l : List Oper} (n : Nat) (hm : P.follows .mixedOrders = true) (hB : Region.lexTailB .any l.toArray n = true)
    (h : wpQuiet P l.toArray (fun w' => ∃ n, w' = w.next n) (fun a' => ∀ w', (∃ n, w' = w.next n) → wpList P l.toArray Q (l.drop n) a' w') (l.take n) a) : (Code.region id l.toArray true).wp P Q a w :=
  wp_region_quiet_tail n hm hB (World.drew_next w) h
/-- The same two with their side facts paid by themselves, and the end of such a walk. -/
theorem wpr {w : World} {id : Nat} {Q : Exit → Act → World → Prop} {a : Act} {l : List Oper} (h : wpQuiet P l.toArray (fun w' => ∃ n, w' = w.next n) (fun a' => ∀ w', (∃ n, w' = w.next n) → Q .normal a' w') l a) (hm : P.follows .mixedOrders = true := by kernel_rfl) (hB : Region.lexB .any l.toArray = true := by kernel_rfl) : (Code.region id l.toArray true).wp P Q a w :=
  wp_region_next hm hB h
theorem wprt {w : World} {id : Nat} {Q : Exit → Act → World → Prop} {a : Act} {l : List Oper} (n : Nat) (h : wpQuiet P l.toArray (fun w' => ∃ n, w' = w.next n) (fun a' => ∀ w', (∃ n, w' = w.next n) → wpList P l.toArray Q (l.drop n) a' w') (l.take n) a) (hm : P.follows .mixedOrders = true := by kernel_rfl) (hB : Region.lexTailB .any l.toArray n = true := by kernel_rfl) : (Code.region id l.toArray true).wp P Q a w :=
  wp_region_next_tail n hm hB h
theorem wqn {w : World} {ops : Array Oper} {C : World → Prop} {R : Act → World → Prop} {a : Act} (h : ∀ n, R a (w.next n)) : wpQuiet P ops C (fun a' => ∀ w', (∃ n, w' = w.next n) → R a' w') [] a :=
  wpQuiet_nil (by rintro _ ⟨n, rfl⟩; exact h n)
end

/-! ### append to a row of the call's own: where the new row lies -/
section
variable {P : Program} (w : World)
/-- The value behind an append lies where the old one lay, or in the block made last. -/
theorem run_append_x (base : Nat) (t ty e : TypeId) (i : TypeInfo) (z : Value) (size bytes : Nat) (ht : P.underlying t = some (.slice e)) (hi : P.info? e = some i) (hz : i.zero = some z)
    (hsize : i.size = size) (hby : i.bytes = bytes) (hzs : z.cells.size = size) (hsz : 0 < size)
    (v : Value) (n : Nat) (xs : List Value) (hown : w.ownsRow base e size v n xs)
    (a : Addr) (m c : Nat) (news : List Value) (hl : news.length = m * size) (hnews : ∀ j u, news[j]? = some u → w.cell? (a.add j) = some u) (h1 : ∀ u ∈ news, u.oneCell' = true)
    (hbytes : (n + m) * bytes ≤ 140737488355328) (h63 : n + m ≤ maxLen) (hbase : base ≤ w.heap.size) :
    ∃ v' w', (Builtin.append_ #[t, t] ty #[v, .slice (some a) m c]).run P w = .ok v' w' ∧ w'.ownsRow base e size v' (n + m) (xs ++ news) ∧ w.grownBy w' v.ownBlock ∧
      (v'.ownBlock = v.ownBlock ∨ v'.ownBlock = some w.heap.size) := by
  obtain ⟨v', w', hr, h2, h3, _⟩ := run_append_own (P := P) w base t ty e i z size bytes ht hi hz hsize hby hzs hsz v n xs hown a m c news hl hnews h1 h63 hbytes hbase
  refine ⟨v', w', hr, h2, h3, ?_⟩
  have hsmall : n + m ≤ 9223372036854775807 := by simp only [maxLen] at h63; omega
  rcases hown.2 with ⟨rfl, rfl⟩ | ⟨g, cap, cur, rfl, hbg, hg, hnc, hcm, hcs, htake⟩
  · by_cases hm : m = 0
    · subst hm
      rcases h2.2 with ⟨rfl, _⟩ | ⟨g, cap, cur, rfl, hbg, hg, hnc, hcm, hcs, htake⟩
      · exact .inl rfl
      · have hn : news = [] := List.eq_nil_of_length_eq_zero (by simpa using hl)
        subst hn
        have : (Builtin.append_ #[t, t] ty #[.slice none 0 0, .slice (some a) 0 c]).run P w = .ok (.slice none 0 0) w := by
          simp [Builtin.append_, run_underlying ht, sizeOf, typeInfo, hi, Builtin.lenOf, Builtin.firstCells, loadCells, loadCellsFrom]
        rw [this] at hr
        simp at hr
    · have hr2 := run_append_nil (P := P) w t ty e i z ht hi hz a m c news (by rw [hsize]; exact hl) hnews (by omega) (by omega) (by rw [hby]; have hb := hbytes; simp only [Nat.zero_add] at hb; omega)
      rw [hr] at hr2
      injection hr2 with e1 e2
      rw [e1]
      exact .inr rfl
  · by_cases hroom : n + m ≤ cap
    · obtain ⟨w2, hr2, _⟩ := run_append_fits (P := P) w base t ty e i size ht hi hsize g n cap xs hown a m c news hl hnews h1 hroom
      rw [hr] at hr2
      injection hr2 with e1 e2
      rw [e1]
      exact .inl rfl
    · have holds : ∀ j u, xs[j]? = some u → w.cell? ((⟨g, 0, none⟩ : Addr).add j) = some u := hown.cells (g := g) rfl
      have hr2 := run_append_grow (P := P) w t ty e i z ht hi hz ⟨g, 0, none⟩ n cap xs (by rw [hsize]; exact hown.1) holds a m c news (by rw [hsize]; exact hl) hnews (by omega) (by omega) (growslice_fits (by omega) (by rw [hby]; exact hbytes))
      rw [hr] at hr2
      injection hr2 with e1 e2
      rw [e1]
      exact .inr rfl
theorem wpList_append_x {ops : Array Oper} {rest : List Oper} {o : Oper} {a : Act} {Q : Exit → Act → World → Prop} (hgd : o.guard = none) (s x : Operand) (t : TypeId)
    (ho : o.op = .call { callee := .builtin .append, args := #[s, x], argTypes := #[t, t] })
    (base : Nat) (e : TypeId) (i : TypeInfo) (z : Value) (size bytes : Nat) (ht : P.underlying t = some (.slice e)) (hi : P.info? e = some i) (hz : i.zero = some z)
    (hsize : i.size = size) (hby : i.bytes = bytes) (hzs : z.cells.size = size) (hsz : 0 < size)
    (v : Value) (n : Nat) (xs : List Value) (hs : a.eval s = v) (hown : w.ownsRow base e size v n xs)
    (ad : Addr) (m c : Nat) (news : List Value) (hx : a.eval x = .slice (some ad) m c) (hl : news.length = m * size) (hnews : ∀ j u, news[j]? = some u → w.cell? (ad.add j) = some u) (h1 : ∀ u ∈ news, u.oneCell' = true)
    (hbytes : (n + m) * bytes ≤ 140737488355328) (h63 : n + m ≤ maxLen) (hbase : base ≤ w.heap.size)
    (h : ∀ v' w', w'.ownsRow base e size v' (n + m) (xs ++ news) → w.grownBy w' v.ownBlock → (v'.ownBlock = v.ownBlock ∨ v'.ownBlock = some w.heap.size) → wpList P ops Q rest (a.put o.dst v') w') : wpList P ops Q (o :: rest) a w := by
  refine wpList_plain hgd fun K hK => ?_
  obtain ⟨v', w', hr, h2, h3, h4⟩ := run_append_x (P := P) w base t o.type e i z size bytes ht hi hz hsize hby hzs hsz v n xs hown ad m c news hl hnews h1 hbytes h63 hbase
  unfold Oper.wp execOp
  simp only [ho, resolve, invoke, builtin, Sem.run_bind, Sem.run_pure, Result.andThen_ok, List.map_toArray, List.map_cons, List.map_nil, hs, hx, hr]
  exact hK _ _ (h v' w' h2 h3 h4)
end

/-! ### append of a whole slice -/
/-- What is appended: nil or empty, or a row of cells somewhere. -/
def World.source (w : World) (size : Nat) (a : Option Addr) (m : Nat) (ys : List Value) : Prop :=
  ys.length = m * size ∧ (∀ u ∈ ys, u.oneCell' = true) ∧ ((a = none ∧ m = 0) ∨ ∃ ad, a = some ad ∧ ∀ j u, ys[j]? = some u → w.cell? (ad.add j) = some u)
section
variable {P : Program} (w : World)
theorem run_append_none (base : Nat) (t ty e : TypeId) (i : TypeInfo) (size c : Nat) (ht : P.underlying t = some (.slice e)) (hi : P.info? e = some i)
    (v : Value) (n : Nat) (xs : List Value) (hown : w.ownsRow base e size v n xs) :
    (Builtin.append_ #[t, t] ty #[v, .slice none 0 c]).run P w = .ok v w := by
  rcases hown.2 with ⟨rfl, rfl⟩ | ⟨g, cap, cur, rfl, _, _, hnc, _⟩
  · simp [Builtin.append_, run_underlying ht, sizeOf, typeInfo, hi, Builtin.lenOf, Builtin.firstCells]
  · simp [Builtin.append_, run_underlying ht, sizeOf, typeInfo, hi, Builtin.lenOf, Builtin.firstCells, hnc, storeCells]
theorem wpList_append_xs {ops : Array Oper} {rest : List Oper} {o : Oper} {a : Act} {Q : Exit → Act → World → Prop} (hgd : o.guard = none) (s x : Operand) (t : TypeId)
    (ho : o.op = .call { callee := .builtin .append, args := #[s, x], argTypes := #[t, t] })
    (base : Nat) (e : TypeId) (i : TypeInfo) (z : Value) (size bytes : Nat) (ht : P.underlying t = some (.slice e)) (hi : P.info? e = some i) (hz : i.zero = some z)
    (hsize : i.size = size) (hby : i.bytes = bytes) (hzs : z.cells.size = size) (hsz : 0 < size)
    (v : Value) (n : Nat) (xs : List Value) (hs : a.eval s = v) (hown : w.ownsRow base e size v n xs)
    (ad : Option Addr) (m c : Nat) (news : List Value) (hx : a.eval x = .slice ad m c) (hsrc : w.source size ad m news)
    (hbytes : (n + m) * bytes ≤ 140737488355328) (h63 : n + m ≤ maxLen) (hbase : base ≤ w.heap.size)
    (h : ∀ v' w', w'.ownsRow base e size v' (n + m) (xs ++ news) → w.grownBy w' v.ownBlock → (v'.ownBlock = v.ownBlock ∨ v'.ownBlock = some w.heap.size) → wpList P ops Q rest (a.put o.dst v') w') : wpList P ops Q (o :: rest) a w := by
  obtain ⟨hl, h1, ⟨rfl, rfl⟩ | ⟨ad, rfl, hnews⟩⟩ := hsrc
  · refine wpList_plain hgd fun K hK => ?_
    have hr := run_append_none (P := P) w base t o.type e i size c ht hi v n xs hown
    have hn : news = [] := List.eq_nil_of_length_eq_zero (by simpa using hl)
    subst hn
    unfold Oper.wp execOp
    simp only [ho, resolve, invoke, builtin, Sem.run_bind, Sem.run_pure, Result.andThen_ok, List.map_toArray, List.map_cons, List.map_nil, hs, hx, hr]
    exact hK _ _ (h v w (by simpa using hown) ⟨rfl, rfl, rfl, Nat.le_refl _, fun _ _ _ => rfl⟩ (.inl rfl))
  · exact wpList_append_x w hgd s x t ho base e i z size bytes ht hi hz hsize hby hzs hsz v n xs hs hown ad m c news hx hl hnews h1 hbytes h63 hbase h
end
end Go

namespace Go.Proofs.Ytnfaciageadlkaa
set_option linter.unusedSimpArgs false
set_option linter.unusedVariables false
set_option maxRecDepth 100000

def withinB (a n s : Int) : Bool := decide (0 ≤ a ∧ 0 ≤ n ∧ a ≤ s ∧ n ≤ s - a)
def properB (a n s : Int) : Bool := decide (1 ≤ n) && (withinB a n 65536 && withinB s n 65536)
theorem properB_iff (a n s : Int) : properB a n s = true ↔ 1 ≤ n ∧ 0 ≤ a ∧ 0 ≤ s ∧ a + n ≤ 65536 ∧ s + n ≤ 65536 := by
  simp only [properB, withinB, Bool.and_eq_true, decide_eq_true_eq]; omega

/-! ### Lists of extents in memory -/
structure E where
  a : Int
  n : Int
  s : Int
/-- Every number of an extent is an int. -/
def E.wf (x : E) : Prop := (-9223372036854775808 ≤ x.a ∧ x.a ≤ 9223372036854775807) ∧ (-9223372036854775808 ≤ x.n ∧ x.n ≤ 9223372036854775807) ∧ (-9223372036854775808 ≤ x.s ∧ x.s ≤ 9223372036854775807)
def wfL (l : List E) : Prop := ∀ x ∈ l, x.wf

def okB (x : E) : Bool := properB x.a x.n x.s
/-- The list is valid from a first block on. -/
def validFrom : Int → List E → Bool
  | _, [] => true
  | e, x :: r => okB x && (decide (e ≤ x.a) && validFrom (x.a + x.n) r)
def validB (l : List E) : Bool := validFrom 0 l

/-- In a valid list: the k-th. -/
def lastEnd (l : List E) : Int := (l.getLast?.map fun x => x.a + x.n).getD 0
theorem validFrom_snoc (l : List E) (x : E) : ∀ e, validFrom e (l ++ [x]) = (validFrom e l && (okB x && decide ((l.getLast?.map fun y => y.a + y.n).getD e ≤ x.a))) := by
  induction l with
  | nil => intro e; simp [validFrom]; rfl
  | cons y r ih =>
    intro e
    simp only [List.cons_append, validFrom, ih, Bool.and_assoc]
    cases r with
    | nil => simp [validFrom]; rfl
    | cons z r => simp [List.getLast?_cons]
theorem validB_take (l : List E) (k : Nat) (h : k < l.length) : validB (l.take (k + 1)) = (validB (l.take k) && (okB l[k] && decide (((l.take k).getLast?.map fun y => y.a + y.n).getD 0 ≤ l[k].a))) := by
  rw [List.take_succ_eq_append_getElem h]
  exact validFrom_snoc _ _ _
theorem validB_zero (l : List E) (h : 0 < l.length) : validB (l.take (0 + 1)) = okB l[0] := by
  rw [validB_take l 0 h, Bool.eq_iff_iff]
  generalize l[0] = x
  simp only [List.take_zero, validB, validFrom, okB, properB_iff, Bool.and_eq_true, Bool.true_and, List.getLast?_nil, Option.map_none, Option.getD_none]
  constructor
  · exact fun h => h.1
  · exact fun h => ⟨h, decide_eq_true h.2.1⟩
theorem validB_zero' (l : List E) (k : Nat) (h0 : k ≤ 0) (h : k < l.length) : validB (l.take (k + 1)) = okB l[k] := by
  obtain rfl : k = 0 := by omega
  exact validB_zero l h
theorem validB_succ (l : List E) (k : Nat) (h : k < l.length) (h0 : 0 < k) : validB (l.take (k + 1)) = (validB (l.take k) && (okB l[k] && decide (l[k - 1].a + l[k - 1].n ≤ l[k].a))) := by
  rw [validB_take l k h]
  have : (l.take k).getLast? = some l[k - 1] := by
    rw [List.getLast?_eq_getElem?, List.length_take, Nat.min_eq_left (Nat.le_of_lt h), List.getElem?_take, if_pos (by omega), List.getElem?_eq_getElem (by omega)]
  rw [this]; rfl
theorem validB_mono (l : List E) : ∀ k, validB l = true → validB (l.take k) = true := by
  have key : ∀ (l : List E) k e, validFrom e l = true → validFrom e (l.take k) = true := by
    intro l
    induction l with
    | nil => intro k e; simp
    | cons x r ih =>
      intro k e h
      cases k with
      | zero => simp [validFrom]
      | succ k =>
        simp only [List.take_succ_cons, validFrom, Bool.and_eq_true] at h ⊢
        exact ⟨h.1, h.2.1, ih _ _ h.2.2⟩
  exact fun k h => key l k 0 h
theorem validB_false (l : List E) (k : Nat) (h : validB (l.take k) = false) : validB l = false := by
  cases hv : validB l with
  | false => rfl
  | true => rw [validB_mono l k hv] at h; exact h


theorem validFrom_ok (l : List E) : ∀ e, validFrom e l = true → ∀ x ∈ l, okB x = true := by
  induction l with
  | nil => intro e _ x hx; cases hx
  | cons y r ih =>
    intro e h x hx
    simp only [validFrom, Bool.and_eq_true] at h
    rcases List.mem_cons.1 hx with rfl | hx
    · exact h.1
    · exact ih _ h.2.2 x hx
theorem validB_ok {l : List E} (h : validB l = true) : ∀ x ∈ l, okB x = true := validFrom_ok l 0 h
theorem okB_iff (x : E) : okB x = true ↔ 1 ≤ x.n ∧ 0 ≤ x.a ∧ 0 ≤ x.s ∧ x.a + x.n ≤ 65536 ∧ x.s + x.n ≤ 65536 := properB_iff _ _ _
theorem take_ok {l : List E} {k j : Nat} (h : validB (l.take k) = true) (hj : j < k) (hl : j < l.length) : okB l[j] = true := by
  refine validB_ok h _ ?_
  rw [List.mem_iff_getElem?]
  exact ⟨j, by rw [List.getElem?_take, if_pos hj]; exact List.getElem?_eq_getElem hl⟩

/-! ### Normal forms -/
/-- Two neighbours that are one. -/
def meets (y x : E) : Bool := decide (y.a + y.n = x.a) && decide (y.s + y.n = x.s)
def E.longer (y : E) (n : Int) : E := ⟨y.a, y.n + n, y.s⟩
/-- An extent behind a normal form. -/
def pushL (l : List E) (x : E) : List E :=
  match l.getLast? with
  | some y => if meets y x then l.dropLast ++ [y.longer x.n] else l ++ [x]
  | none => [x]
def joinL (l : List E) : List E := l.foldl pushL []
theorem pushL_nil (x : E) : pushL [] x = [x] := rfl
theorem pushL_yes (l : List E) (y x : E) (h : meets y x = true) : pushL (l ++ [y]) x = l ++ [y.longer x.n] := by
  simp [pushL, h]
theorem pushL_no (l : List E) (y x : E) (h : meets y x = false) : pushL (l ++ [y]) x = l ++ [y] ++ [x] := by
  simp [pushL, h]
theorem snoc_of (l : List E) (h : l ≠ []) : ∃ l' y, l = l' ++ [y] := ⟨l.dropLast, l.getLast h, (List.dropLast_concat_getLast h).symm⟩
theorem pushL_length (l : List E) (x : E) : (pushL l x).length ≤ l.length + 1 := by
  by_cases h : l = []
  · subst h; simp [pushL]
  · obtain ⟨l', y, rfl⟩ := snoc_of l h
    cases hm : meets y x
    · rw [pushL_no _ _ _ hm]; simp
    · rw [pushL_yes _ _ _ hm]; simp
theorem pushL_ok (l : List E) (x : E) (hl : ∀ y ∈ l, okB y = true) (hx : okB x = true) : ∀ y ∈ pushL l x, okB y = true := by
  by_cases h : l = []
  · subst h; intro y hy; simp [pushL] at hy; rw [hy]; exact hx
  · obtain ⟨l', z, rfl⟩ := snoc_of l h
    intro y hy
    cases hm : meets z x
    · rw [pushL_no _ _ _ hm] at hy
      rcases List.mem_append.1 hy with hy | hy
      · exact hl y hy
      · simp at hy; rw [hy]; exact hx
    · rw [pushL_yes _ _ _ hm] at hy
      rcases List.mem_append.1 hy with hy | hy
      · exact hl y (List.mem_append_left _ hy)
      · simp at hy
        rw [hy]
        have h1 := hl z (by simp)
        simp only [meets, Bool.and_eq_true, decide_eq_true_eq] at hm
        rw [okB_iff] at h1 hx ⊢
        simp only [E.longer]
        omega

theorem joinL_snoc (l : List E) (x : E) : joinL (l ++ [x]) = pushL (joinL l) x := by simp [joinL]
theorem joinL_take (l : List E) (k : Nat) (h : k < l.length) : joinL (l.take (k + 1)) = pushL (joinL (l.take k)) l[k] := by
  rw [List.take_succ_eq_append_getElem h, joinL_snoc]
theorem snoc_ind {P : List E → Prop} (h0 : P []) (h1 : ∀ l x, P l → P (l ++ [x])) (l : List E) : P l := by
  have : ∀ n (l : List E), l.length = n → P l := by
    intro n
    induction n with
    | zero => intro l hl; rw [List.eq_nil_of_length_eq_zero hl]; exact h0
    | succ n ih =>
      intro l hl
      obtain ⟨l', y, rfl⟩ := snoc_of l (by intro e; rw [e] at hl; simp at hl)
      exact h1 _ _ (ih _ (by simp at hl; omega))
  exact this _ l rfl
theorem joinL_length (l : List E) : (joinL l).length ≤ l.length := by
  induction l using snoc_ind with
  | h0 => simp [joinL]
  | h1 l x ih =>
    rw [joinL_snoc]
    have := pushL_length (joinL l) x
    simp
    omega
theorem joinL_ok (l : List E) : (∀ x ∈ l, okB x = true) → ∀ x ∈ joinL l, okB x = true := by
  induction l using snoc_ind with
  | h0 => intro _ x hx; simp [joinL] at hx
  | h1 l x ih =>
    intro h
    rw [joinL_snoc]
    exact pushL_ok _ _ (ih fun y hy => h y (List.mem_append_left _ hy)) (h x (by simp))

end Go.Proofs.Ytnfaciageadlkaa

namespace Go.Proofs.Ytnfaciageadlkaa
set_option linter.unusedSimpArgs false
set_option linter.unusedVariables false
set_option maxRecDepth 100000

/-! ### Blocks, Find, parts -/
def lenL (l : List E) : Int := (l.map E.n).sum
theorem lenL_take (l : List E) (k : Nat) (h : k < l.length) : lenL (l.take (k + 1)) = lenL (l.take k) + l[k].n := by
  rw [List.take_succ_eq_append_getElem h]
  unfold lenL
  rw [List.map_append, List.sum_append]
  simp
theorem lenL_bound (l : List E) (h : ∀ x ∈ l, okB x = true) : 0 ≤ lenL l ∧ lenL l ≤ 65536 * l.length := by
  induction l with
  | nil => simp [lenL]
  | cons x r ih =>
    have h1 := (okB_iff x).1 (h x (by simp))
    have h2 := ih fun y hy => h y (by simp [hy])
    have e : lenL (x :: r) = x.n + lenL r := by simp [lenL]
    rw [e]
    simp only [List.length_cons]
    omega
def hits (p : Int) (x : E) : Bool := decide (x.a ≤ p) && decide (p < x.a + x.n)
/-- The slot of a block, and whether there is one. -/
def findS (l : List E) (p : Int) : Int := ((l.find? (hits p)).map fun x => x.s + p - x.a).getD 0
def findB (l : List E) (p : Int) : Bool := (l.find? (hits p)).isSome
theorem find_take (l : List E) (p : Int) (k : Nat) (h : k < l.length) (h0 : (l.take k).find? (hits p) = none) : (hits p l[k] = false → (l.take (k + 1)).find? (hits p) = none) ∧ (hits p l[k] = true → l.find? (hits p) = some l[k]) := by
  refine ⟨fun h1 => ?_, fun h1 => ?_⟩
  · rw [List.take_succ_eq_append_getElem h, List.find?_append, h0]; simp [h1]
  · have : l.find? (hits p) = (l.take k ++ l[k] :: l.drop (k + 1)).find? (hits p) := by rw [← List.drop_eq_getElem_cons h, List.take_append_drop]
    rw [this, List.find?_append, h0, Option.none_or, List.find?_cons_of_pos h1]
/-- What Blocks and Find return. -/
def blocksV (l : List E) : Int := if validB l then lenL l else 0
def findV (l : List E) (p : Int) : Int := if validB l then findS l p else 0
def findW (l : List E) (p : Int) : Bool := validB l && findB l p
theorem blocksV_no {l : List E} (h : validB l = false) : blocksV l = 0 := by simp [blocksV, h]
theorem blocksV_yes {l : List E} (h : validB l = true) : blocksV l = lenL l := by simp [blocksV, h]
theorem findV_no {l : List E} (p : Int) (h : validB l = false) : findV l p = 0 := by simp [findV, h]
theorem findV_yes {l : List E} (p : Int) (h : validB l = true) : findV l p = findS l p := by simp [findV, h]
theorem findW_no {l : List E} (p : Int) (h : validB l = false) : findW l p = false := by simp [findW, h]
theorem findW_yes {l : List E} (p : Int) (h : validB l = true) : findW l p = findB l p := by simp [findW, h]
/-- The part of an extent between two blocks, and whether there is one. -/
def partE (x : E) (f t : Int) : E := ⟨max x.a f, min (x.a + x.n) t - max x.a f, x.s + max x.a f - x.a⟩
def partB (x : E) (f t : Int) : Bool := decide (max x.a f < min (x.a + x.n) t)
theorem partE_ok (x : E) (f t : Int) (hx : okB x = true) (hp : partB x f t = true) : okB (partE x f t) = true := by
  rw [okB_iff] at *
  simp only [partB, decide_eq_true_eq, partE] at *
  omega
def pushIf (b : Bool) (l : List E) (x : E) : List E := if b then pushL l x else l

/-- Cut: what is left, what is removed. -/
def cutStep (p n : Int) (acc : List E) (x : E) : List E := pushIf (partB x (p + n) 65536) (pushIf (partB x 0 p) acc (partE x 0 p)) (partE x (p + n) 65536)
def inStep (p n : Int) (acc : List E) (x : E) : List E := pushIf (partB x p (p + n)) acc (partE x p (p + n))
def cutL (l : List E) (p n : Int) : List E := l.foldl (cutStep p n) []
def inL (l : List E) (p n : Int) : List E := l.foldl (inStep p n) []
theorem pushIf_length (b : Bool) (l : List E) (x : E) : (pushIf b l x).length ≤ l.length + 1 := by
  unfold pushIf
  split
  · exact pushL_length l x
  · omega
theorem pushIf_ok (b : Bool) (l : List E) (x : E) (hl : ∀ y ∈ l, okB y = true) (hx : b = true → okB x = true) : ∀ y ∈ pushIf b l x, okB y = true := by
  unfold pushIf
  split
  · rename_i h; exact pushL_ok l x hl (hx h)
  · exact hl
theorem cutL_take (l : List E) (p n : Int) (k : Nat) (h : k < l.length) : cutL (l.take (k + 1)) p n = cutStep p n (cutL (l.take k) p n) l[k] := by
  unfold cutL; rw [List.take_succ_eq_append_getElem h, List.foldl_append]; rfl
theorem inL_take (l : List E) (p n : Int) (k : Nat) (h : k < l.length) : inL (l.take (k + 1)) p n = inStep p n (inL (l.take k) p n) l[k] := by
  unfold inL; rw [List.take_succ_eq_append_getElem h, List.foldl_append]; rfl
theorem cutL_facts (l : List E) (p n : Int) : (∀ x ∈ l, okB x = true) → (cutL l p n).length ≤ 2 * l.length ∧ ∀ x ∈ cutL l p n, okB x = true := by
  induction l using snoc_ind with
  | h0 => simp [cutL]
  | h1 l x ih =>
    intro h
    obtain ⟨h1, h2⟩ := ih fun y hy => h y (List.mem_append_left _ hy)
    have hx := h x (by simp)
    have e : cutL (l ++ [x]) p n = cutStep p n (cutL l p n) x := by simp [cutL]
    rw [e]
    refine ⟨?_, ?_⟩
    · unfold cutStep
      have a1 := pushIf_length (partB x 0 p) (cutL l p n) (partE x 0 p)
      have a2 := pushIf_length (partB x (p + n) 65536) (pushIf (partB x 0 p) (cutL l p n) (partE x 0 p)) (partE x (p + n) 65536)
      simp
      omega
    · exact pushIf_ok _ _ _ (pushIf_ok _ _ _ h2 fun hp => partE_ok _ _ _ hx hp) fun hp => partE_ok _ _ _ hx hp
theorem inL_facts (l : List E) (p n : Int) : (∀ x ∈ l, okB x = true) → (inL l p n).length ≤ l.length ∧ ∀ x ∈ inL l p n, okB x = true := by
  induction l using snoc_ind with
  | h0 => simp [inL]
  | h1 l x ih =>
    intro h
    obtain ⟨h1, h2⟩ := ih fun y hy => h y (List.mem_append_left _ hy)
    have hx := h x (by simp)
    have e : inL (l ++ [x]) p n = inStep p n (inL l p n) x := by simp [inL]
    rw [e]
    refine ⟨?_, ?_⟩
    · unfold inStep
      have a1 := pushIf_length (partB x p (p + n)) (inL l p n) (partE x p (p + n))
      simp
      omega
    · exact pushIf_ok _ _ _ h2 fun hp => partE_ok _ _ _ hx hp

/-- The parts of a list between two blocks. -/
def partsL (l : List E) (f t : Int) : List E := (l.filter fun x => partB x f t).map fun x => partE x f t
theorem partsL_snoc (l : List E) (x : E) (f t : Int) : partsL (l ++ [x]) f t = if partB x f t then partsL l f t ++ [partE x f t] else partsL l f t := by
  unfold partsL
  rw [List.filter_append, List.map_append]
  cases h : partB x f t <;> simp [h]
theorem partsL_take (l : List E) (f t : Int) (k : Nat) (h : k < l.length) : partsL (l.take (k + 1)) f t = if partB l[k] f t then partsL (l.take k) f t ++ [partE l[k] f t] else partsL (l.take k) f t := by
  rw [List.take_succ_eq_append_getElem h, partsL_snoc]
theorem partsL_length (l : List E) (f t : Int) : (partsL l f t).length ≤ l.length := by
  unfold partsL
  rw [List.length_map]
  exact List.length_filter_le _ _
theorem partsL_ok (l : List E) (f t : Int) (h : ∀ x ∈ l, okB x = true) : ∀ x ∈ partsL l f t, okB x = true := by
  intro x hx
  unfold partsL at hx
  obtain ⟨y, hy, rfl⟩ := List.mem_map.1 hx
  obtain ⟨h1, h2⟩ := List.mem_filter.1 hy
  exact partE_ok _ _ _ (h y h1) h2

end Go.Proofs.Ytnfaciageadlkaa

namespace Go.Proofs.Ytnfaciageadlkaa
set_option linter.unusedSimpArgs false
set_option linter.unusedVariables false
set_option maxRecDepth 100000

theorem E.ext' {x y : E} (h1 : x.a = y.a) (h2 : x.n = y.n) (h3 : x.s = y.s) : x = y := by
  cases x; cases y; simp_all
def eqE (x y : E) : Bool := decide (x.a = y.a) && (decide (x.n = y.n) && decide (x.s = y.s))
theorem eqE_iff (x y : E) : eqE x y = true ↔ x = y := by
  simp only [eqE, Bool.and_eq_true, decide_eq_true_eq]
  exact ⟨fun ⟨h1, h2, h3⟩ => E.ext' h1 h2 h3, fun h => by rw [h]; exact ⟨rfl, rfl, rfl⟩⟩
def sameB : List E → List E → Bool
  | [], [] => true
  | x :: l, y :: r => eqE x y && sameB l r
  | _, _ => false
theorem sameB_iff (l r : List E) : sameB l r = true ↔ l = r := by
  induction l generalizing r with
  | nil => cases r <;> simp [sameB]
  | cons x l ih => cases r with
    | nil => simp [sameB]
    | cons y r => simp [sameB, ih, eqE_iff]
theorem sameB_refl (l : List E) : sameB l l = true := (sameB_iff l l).2 rfl
theorem validFrom_iff (l : List E) : ∀ e, validFrom e l = true ↔ (∀ x ∈ l, okB x = true) ∧ l.Pairwise (fun x y => x.a + x.n ≤ y.a) ∧ ∀ x ∈ l, e ≤ x.a := by
  induction l with
  | nil => intro e; simp [validFrom]
  | cons x r ih =>
    intro e
    simp only [validFrom, Bool.and_eq_true, decide_eq_true_eq, ih, List.pairwise_cons, List.mem_cons, forall_eq_or_imp]
    constructor
    · rintro ⟨h1, h2, h3, h4, h5⟩
      have := (okB_iff x).1 h1
      exact ⟨⟨h1, h3⟩, ⟨h5, h4⟩, h2, fun y hy => by have := h5 y hy; omega⟩
    · rintro ⟨⟨h1, h3⟩, ⟨h5, h4⟩, h2, _⟩
      exact ⟨h1, h2, h3, h4, h5⟩
theorem validB_iff (l : List E) : validB l = true ↔ (∀ x ∈ l, okB x = true) ∧ l.Pairwise (fun x y => x.a + x.n ≤ y.a) := by
  unfold validB
  rw [validFrom_iff]
  constructor
  · exact fun h => ⟨h.1, h.2.1⟩
  · exact fun h => ⟨h.1, h.2, fun x hx => ((okB_iff x).1 (h.1 x hx)).2.1⟩
theorem parts_valid (l : List E) (f t : Int) (h : validB l = true) : validB (partsL l f t) = true := by
  rw [validB_iff] at h ⊢
  refine ⟨partsL_ok l f t h.1, ?_⟩
  unfold partsL
  rw [List.pairwise_map]
  have h2 : (l.filter fun x => partB x f t).Pairwise (fun x y => x.a + x.n ≤ y.a) := h.2.sublist List.filter_sublist
  refine h2.imp_of_mem ?_
  intro x y hx hy hxy
  have k1 := (List.mem_filter.1 hx).2
  have k2 := (List.mem_filter.1 hy).2
  simp only [partB, decide_eq_true_eq, partE] at *
  omega
theorem parts_range (l : List E) (f t : Int) : ∀ x ∈ partsL l f t, f ≤ x.a ∧ x.a + x.n ≤ t := by
  intro x hx
  unfold partsL at hx
  obtain ⟨y, hy, rfl⟩ := List.mem_map.1 hx
  have k := (List.mem_filter.1 hy).2
  simp only [partB, decide_eq_true_eq, partE] at *
  omega
theorem parts_append_valid (l : List E) (f t g u : Int) (h : validB l = true) (htg : t ≤ g) : validB (partsL l f t ++ partsL l g u) = true := by
  have h1 := (validB_iff _).1 (parts_valid l f t h)
  have h2 := (validB_iff _).1 (parts_valid l g u h)
  rw [validB_iff]
  refine ⟨fun x hx => ?_, ?_⟩
  · rcases List.mem_append.1 hx with hx | hx
    · exact h1.1 x hx
    · exact h2.1 x hx
  · rw [List.pairwise_append]
    refine ⟨h1.2, h2.2, fun x hx y hy => ?_⟩
    have a := parts_range l f t x hx
    have b := parts_range l g u y hy
    omega
theorem inL_eq (l : List E) (p n : Int) : inL l p n = joinL (partsL l p (p + n)) := by
  induction l using snoc_ind with
  | h0 => rfl
  | h1 l x ih =>
    have e : inL (l ++ [x]) p n = inStep p n (inL l p n) x := by simp [inL]
    rw [e, partsL_snoc, ih]
    unfold inStep pushIf
    cases partB x p (p + n)
    · rfl
    · simp [joinL_snoc]
theorem parts_nil_of (l : List E) (f t : Int) (h : ∀ x ∈ l, x.a + x.n ≤ f) : partsL l f t = [] := by
  unfold partsL
  rw [List.map_eq_nil_iff, List.filter_eq_nil_iff]
  intro x hx
  have := h x hx
  simp only [partB, decide_eq_true_eq]
  omega
theorem cutL_eq (l : List E) (p n : Int) (hn : 0 ≤ n) : validB l = true → cutL l p n = joinL (partsL l 0 p ++ partsL l (p + n) 65536) := by
  induction l using snoc_ind with
  | h0 => intro _; rfl
  | h1 l x ih =>
    intro h
    rw [validB_iff] at h
    have hp := List.pairwise_append.1 h.2
    have hv : validB l = true := (validB_iff l).2 ⟨fun y hy => h.1 y (List.mem_append_left _ hy), hp.1⟩
    have e : cutL (l ++ [x]) p n = cutStep p n (cutL l p n) x := by simp [cutL]
    rw [e, partsL_snoc, partsL_snoc, ih hv]
    unfold cutStep pushIf
    cases h1 : partB x 0 p
    · cases h2 : partB x (p + n) 65536
      · simp
      · simp only [Bool.false_eq_true, if_false, if_true]
        rw [← List.append_assoc, joinL_snoc]
    · have hr : partsL l (p + n) 65536 = [] := parts_nil_of l _ _ fun y hy => by
        have := hp.2.2 y hy x (by simp)
        simp only [partB, decide_eq_true_eq] at h1
        omega
      rw [hr]
      cases h2 : partB x (p + n) 65536
      · simp [joinL_snoc]
      · simp only [if_true, List.append_nil, List.nil_append]
        rw [joinL_snoc, joinL_snoc]

end Go.Proofs.Ytnfaciageadlkaa

namespace Go.Proofs.Ytnfaciageadlkaa
set_option linter.unusedSimpArgs false
set_option linter.unusedVariables false
set_option maxRecDepth 100000

theorem hits_iff (p : Int) (x : E) : hits p x = true ↔ x.a ≤ p ∧ p < x.a + x.n := by
  simp only [hits, Bool.and_eq_true, decide_eq_true_eq]
theorem meets_iff (y x : E) : meets y x = true ↔ y.a + y.n = x.a ∧ y.s + y.n = x.s := by
  simp only [meets, Bool.and_eq_true, decide_eq_true_eq]
/-- The slot to which a list maps a block. -/
def slotAt (l : List E) (p : Int) : Option Int := (l.find? (hits p)).map fun x => x.s + p - x.a
theorem slotAt_append (l r : List E) (p : Int) : slotAt (l ++ r) p = (slotAt l p).or (slotAt r p) := by
  unfold slotAt
  rw [List.find?_append]
  cases l.find? (hits p) <;> simp
theorem slotAt_one (x : E) (p : Int) : slotAt [x] p = if hits p x then some (x.s + p - x.a) else none := by
  unfold slotAt
  cases h : hits p x <;> simp [h]
theorem slotAt_longer (y x : E) (p : Int) (hy : 0 ≤ y.n) (hx : 0 ≤ x.n) (hm : meets y x = true) : slotAt [y.longer x.n] p = (slotAt [y] p).or (slotAt [x] p) := by
  simp only [meets, Bool.and_eq_true, decide_eq_true_eq] at hm
  obtain ⟨h1, h2⟩ := hm
  rw [slotAt_one, slotAt_one, slotAt_one]
  have e1 : hits p (y.longer x.n) = (hits p y || hits p x) := by
    rw [Bool.eq_iff_iff]
    rw [Bool.or_eq_true, hits_iff, hits_iff, hits_iff]
    simp only [E.longer]
    omega
  have e2 : y.s + p - y.a = x.s + p - x.a := by omega
  rw [e1]
  cases hy' : hits p y
  · cases hx' : hits p x
    · simp
    · simp [E.longer, e2]
  · simp [E.longer]
theorem slotAt_push (l : List E) (x : E) (p : Int) (hl : ∀ y ∈ l, 0 ≤ y.n) (hx : 0 ≤ x.n) : slotAt (pushL l x) p = (slotAt l p).or (slotAt [x] p) := by
  by_cases h : l = []
  · subst h; simp [pushL, slotAt]
  · obtain ⟨l', y, rfl⟩ := snoc_of l h
    cases hm : meets y x
    · rw [pushL_no _ _ _ hm, slotAt_append]
    · rw [pushL_yes _ _ _ hm, slotAt_append, slotAt_longer y x p (hl y (by simp)) hx hm, slotAt_append, Option.or_assoc]
theorem joinL_nonneg (l : List E) (h : ∀ x ∈ l, okB x = true) : ∀ x ∈ joinL l, 0 ≤ x.n := fun x hx => by
  have := (okB_iff x).1 (joinL_ok l h x hx); omega
theorem slotAt_join (l : List E) (p : Int) : (∀ x ∈ l, okB x = true) → slotAt (joinL l) p = slotAt l p := by
  induction l using snoc_ind with
  | h0 => intro _; rfl
  | h1 l x ih =>
    intro h
    have hl : ∀ y ∈ l, okB y = true := fun y hy => h y (List.mem_append_left _ hy)
    have hx := (okB_iff x).1 (h x (by simp))
    rw [joinL_snoc, slotAt_push _ _ _ (joinL_nonneg l hl) (by omega), ih hl, slotAt_append]
/-- In a valid list each extent is found at its blocks. -/
theorem slotAt_mem (l : List E) (h : validB l = true) (x : E) (hx : x ∈ l) (p : Int) (hp : hits p x = true) : slotAt l p = some (x.s + p - x.a) := by
  rw [validB_iff] at h
  obtain ⟨hok, hpw⟩ := h
  induction l with
  | nil => cases hx
  | cons y r ih =>
    have hpw' := List.pairwise_cons.1 hpw
    rcases List.mem_cons.1 hx with rfl | hx
    · show slotAt ([x] ++ r) p = _
      rw [slotAt_append, slotAt_one]; simp [hp]
    · show slotAt ([y] ++ r) p = _
      rw [slotAt_append, slotAt_one]
      have h1 := hpw'.1 x hx
      have h2 := (okB_iff y).1 (hok y (by simp))
      have hn : hits p y = false := by
        simp only [hits, Bool.and_eq_true, decide_eq_true_eq] at hp
        cases hh : hits p y with
        | false => rfl
        | true => simp only [hits, Bool.and_eq_true, decide_eq_true_eq] at hh; omega
      simp [hn]
      exact ih hx (fun z hz => hok z (by simp [hz])) hpw'.2

/-! ### A slot changed -/
theorem set_split (l : List E) (k : Nat) (h : k < l.length) (y : E) : l.set k y = l.take k ++ y :: l.drop (k + 1) := by
  rw [List.set_eq_take_append_cons_drop, if_pos h]
theorem split_at (l : List E) (k : Nat) (h : k < l.length) : l = l.take k ++ l[k] :: l.drop (k + 1) := by
  rw [← List.drop_eq_getElem_cons h, List.take_append_drop]
/-- Validity looks at an extent's blocks alone, and at its slots by themselves. -/
theorem valid_swap (A B : List E) (x : E) (C : List E) (hC : ∀ y ∈ C, okB y = true) (hCp : C.Pairwise fun x y => x.a + x.n ≤ y.a) (hlo : ∀ y ∈ C, x.a ≤ y.a) (hhi : ∀ y ∈ C, y.a + y.n ≤ x.a + x.n)
    (h : validB (A ++ x :: B) = true) : validB (A ++ (C ++ B)) = true := by
  rw [validB_iff] at *
  obtain ⟨h1, h2⟩ := h
  obtain ⟨p1, p2, p3⟩ := List.pairwise_append.1 h2
  obtain ⟨p4, p5⟩ := List.pairwise_cons.1 p2
  refine ⟨fun y hy => ?_, ?_⟩
  · rcases List.mem_append.1 hy with hy | hy
    · exact h1 y (by simp [hy])
    · rcases List.mem_append.1 hy with hy | hy
      · exact hC y hy
      · exact h1 y (by simp [hy])
  · refine List.pairwise_append.2 ⟨p1, List.pairwise_append.2 ⟨hCp, p5, fun y hy z hz => ?_⟩, fun y hy z hz => ?_⟩
    · have := hhi y hy
      have := p4 z hz
      omega
    · rcases List.mem_append.1 hz with hz | hz
      · have := hlo z hz
        have := p3 y hy x (by simp)
        omega
      · exact p3 y hy z (by simp [hz])
def E.slot (x : E) (s : Int) : E := ⟨x.a, x.n, s⟩
theorem set_valid (l : List E) (k : Nat) (h : k < l.length) (s : Int) (hv : validB l = true) (h0 : 0 ≤ s) (h1 : s + l[k].n ≤ 65536) : validB (l.set k (l[k].slot s)) = true := by
  rw [set_split l k h]
  have hv' := hv
  rw [split_at l k h] at hv'
  have hk := (okB_iff _).1 (validB_ok hv l[k] (List.getElem_mem h))
  have := valid_swap (l.take k) (l.drop (k + 1)) l[k] [l[k].slot s] (fun y hy => by
    simp at hy; subst hy; rw [okB_iff]; simp only [E.slot]; omega) (by simp) (fun y hy => by simp at hy; subst hy; simp [E.slot]) (fun y hy => by simp at hy; subst hy; simp [E.slot]) hv'
  simpa using this
theorem set_other (l : List E) (k : Nat) (h : k < l.length) (s : Int) (hv : validB l = true) (h0 : 0 ≤ s) (h1 : s + l[k].n ≤ 65536) (hne : s ≠ l[k].s) : sameB (joinL l) (joinL (l.set k (l[k].slot s))) = false := by
  cases hs : sameB (joinL l) (joinL (l.set k (l[k].slot s))) with
  | false => rfl
  | true =>
    have e := (sameB_iff _ _).1 hs
    have hv2 := set_valid l k h s hv h0 h1
    have hk := (okB_iff _).1 (validB_ok hv l[k] (List.getElem_mem h))
    have a1 := slotAt_join l l[k].a (validB_ok hv)
    have a2 := slotAt_join _ l[k].a (validB_ok hv2)
    rw [slotAt_mem l hv l[k] (List.getElem_mem h) l[k].a (by rw [hits_iff]; omega)] at a1
    rw [slotAt_mem _ hv2 (l[k].slot s) (List.mem_set h _) l[k].a (by rw [hits_iff]; simp only [E.slot]; omega), ← e, a1] at a2
    simp only [E.slot, Option.some.injEq] at a2
    omega

/-! ### An extent divided -/
def E.fst (x : E) (n : Int) : E := ⟨x.a, n, x.s⟩
def E.snd (x : E) (n : Int) : E := ⟨x.a + n, x.n - n, x.s + n⟩
theorem push_divided (R : List E) (x : E) (n : Int) : pushL (pushL R (x.fst n)) (x.snd n) = pushL R x := by
  have hm : meets (x.fst n) (x.snd n) = true := by simp [meets, E.fst, E.snd]
  have hl : (x.fst n).longer (x.snd n).n = x := E.ext' rfl (by simp only [E.fst, E.snd, E.longer]; omega) rfl
  by_cases h : R = []
  · subst h
    rw [pushL_nil, pushL_nil]
    have := pushL_yes [] (x.fst n) (x.snd n) hm
    rw [hl] at this
    exact this
  · obtain ⟨R', y, rfl⟩ := snoc_of R h
    have e : meets y (x.fst n) = meets y x := rfl
    cases hy : meets y x
    · rw [pushL_no R' y x hy, pushL_no R' y _ (e.trans hy), pushL_yes _ _ _ hm, hl]
    · rw [pushL_yes R' y x hy, pushL_yes R' y _ (e.trans hy)]
      simp only [meets, Bool.and_eq_true, decide_eq_true_eq] at hy
      have hm2 : meets (y.longer (x.fst n).n) (x.snd n) = true := by
        rw [meets_iff]; simp only [E.longer, E.fst, E.snd]; omega
      rw [pushL_yes _ _ _ hm2]
      congr 2
      simp only [E.longer, E.fst, E.snd]
      congr 1
      omega
theorem divided_join (l : List E) (k : Nat) (h : k < l.length) (n : Int) : joinL (l.take k ++ ([l[k].fst n, l[k].snd n] ++ l.drop (k + 1))) = joinL l := by
  have e : joinL l = joinL (l.take k ++ l[k] :: l.drop (k + 1)) := by rw [← split_at l k h]
  rw [e]
  unfold joinL
  rw [List.foldl_append, List.foldl_append, List.foldl_append]
  simp only [List.foldl_cons, List.foldl_nil]
  rw [push_divided]
theorem divided_valid (l : List E) (k : Nat) (h : k < l.length) (n : Int) (hv : validB l = true) (h0 : 0 < n) (h1 : n < l[k].n) : validB (l.take k ++ ([l[k].fst n, l[k].snd n] ++ l.drop (k + 1))) = true := by
  have hv' := hv
  rw [split_at l k h] at hv'
  have hk := (okB_iff _).1 (validB_ok hv l[k] (List.getElem_mem h))
  refine valid_swap (l.take k) (l.drop (k + 1)) l[k] _ ?_ ?_ ?_ ?_ hv'
  · intro y hy
    simp at hy
    rcases hy with rfl | rfl <;> (rw [okB_iff]; simp only [E.fst, E.snd]; omega)
  · simp [E.fst, E.snd]
  · intro y hy
    simp at hy
    rcases hy with rfl | rfl <;> (simp only [E.fst, E.snd]; omega)
  · intro y hy
    simp at hy
    rcases hy with rfl | rfl <;> (simp only [E.fst, E.snd]; omega)

end Go.Proofs.Ytnfaciageadlkaa

namespace Go.Proofs.Ytnfaciageadlkaa
set_option linter.unusedSimpArgs false
set_option linter.unusedVariables false
set_option maxRecDepth 100000

/-- Pushing extents one after another. -/
def pushAll (R l : List E) : List E := l.foldl pushL R
theorem joinL_append (A B : List E) : joinL (A ++ B) = pushAll (joinL A) B := by simp [joinL, pushAll]
theorem push_longer (R : List E) (y b : E) (h : meets y b = true) : pushL (pushL R y) b = pushL R (y.longer b.n) := by
  rw [meets_iff] at h
  have h1 : (y.longer b.n).fst y.n = y := rfl
  have h2 : (y.longer b.n).snd y.n = b := E.ext' (by simp only [E.snd, E.longer]; omega) (by simp only [E.snd, E.longer]; omega) (by simp only [E.snd, E.longer]; omega)
  have := push_divided R (y.longer b.n) y.n
  rw [h1, h2] at this
  exact this
theorem pushAll_join (R B : List E) : pushAll R (joinL B) = pushAll R B := by
  induction B using snoc_ind with
  | h0 => rfl
  | h1 B b ih =>
    have e : pushAll R (B ++ [b]) = pushL (pushAll R B) b := by simp [pushAll]
    rw [e, joinL_snoc]
    by_cases h : joinL B = []
    · rw [h] at ih ⊢
      rw [← ih]; rfl
    · obtain ⟨C, y, hc⟩ := snoc_of _ h
      rw [hc] at ih ⊢
      have e2 : pushAll R (C ++ [y]) = pushL (pushAll R C) y := by simp [pushAll]
      rw [e2] at ih
      cases hm : meets y b
      · rw [pushL_no _ _ _ hm, ← ih]
        simp [pushAll]
      · rw [pushL_yes _ _ _ hm, ← ih, push_longer _ _ _ hm]
        simp [pushAll]
theorem joinL_join (B : List E) : joinL (joinL B) = joinL B := pushAll_join [] B
/-- A valid list stays valid when it is joined, its blocks stay where they were. -/
theorem join_range (l : List E) (lo hi : Int) : (∀ x ∈ l, 0 ≤ x.n) → (∀ x ∈ l, lo ≤ x.a ∧ x.a + x.n ≤ hi) → ∀ x ∈ joinL l, lo ≤ x.a ∧ x.a + x.n ≤ hi := by
  induction l using snoc_ind with
  | h0 => intro _ _ x hx; simp [joinL] at hx
  | h1 l x ih =>
    intro hn h y hy
    have ih' := ih (fun z hz => hn z (List.mem_append_left _ hz)) (fun z hz => h z (List.mem_append_left _ hz))
    rw [joinL_snoc] at hy
    by_cases h0 : joinL l = []
    · rw [h0, pushL_nil] at hy
      simp at hy; subst hy
      exact h y (by simp)
    · obtain ⟨C, z, hc⟩ := snoc_of _ h0
      rw [hc] at hy ih'
      cases hm : meets z x
      · rw [pushL_no _ _ _ hm] at hy
        rcases List.mem_append.1 hy with hy | hy
        · exact ih' y hy
        · simp at hy; subst hy; exact h y (by simp)
      · rw [pushL_yes _ _ _ hm] at hy
        rcases List.mem_append.1 hy with hy | hy
        · exact ih' y (List.mem_append_left _ hy)
        · simp at hy; subst hy
          have h1 := ih' z (by simp)
          have h2 := h x (by simp)
          rw [meets_iff] at hm
          simp only [E.longer]
          omega
theorem push_valid (R : List E) (x : E) (h : validB (R ++ [x]) = true) : validB (pushL R x) = true := by
  by_cases h0 : R = []
  · subst h0; exact h
  · obtain ⟨C, y, rfl⟩ := snoc_of _ h0
    cases hm : meets y x
    · rw [pushL_no _ _ _ hm]; exact h
    · rw [pushL_yes _ _ _ hm]
      have hok := validB_ok h
      have hy := (okB_iff y).1 (hok y (by simp))
      have hx := (okB_iff x).1 (hok x (by simp))
      rw [validB_iff] at h ⊢
      obtain ⟨h1, h2⟩ := h
      rw [meets_iff] at hm
      refine ⟨fun z hz => ?_, ?_⟩
      · rcases List.mem_append.1 hz with hz | hz
        · exact h1 z (by simp [hz])
        · simp at hz; subst hz; rw [okB_iff]; simp only [E.longer]; omega
      · have p := List.pairwise_append.1 h2
        have q := List.pairwise_append.1 p.1
        refine List.pairwise_append.2 ⟨q.1, by simp, fun z hz w hw => ?_⟩
        simp at hw; subst hw
        exact q.2.2 z hz y (by simp)
theorem join_append_valid (A B : List E) : validB (A ++ B) = true → validB (joinL A ++ B) = true := by
  induction A using snoc_ind generalizing B with
  | h0 => exact id
  | h1 A a ih =>
    intro h
    rw [joinL_snoc]
    have h1 := ih ([a] ++ B) (by simpa using h)
    have h2 : validB ((joinL A ++ [a]) ++ B) = true := by simpa using h1
    by_cases h0 : joinL A = []
    · rw [h0] at h2 ⊢; exact h2
    · obtain ⟨C, y, hc⟩ := snoc_of _ h0
      rw [hc] at h2 ⊢
      cases hm : meets y a
      · rw [pushL_no _ _ _ hm]; exact h2
      · rw [pushL_yes _ _ _ hm]
        have hv : validB (C ++ [y] ++ [a]) = true := by
          have := validB_mono _ (C ++ [y] ++ [a]).length h2
          rw [List.take_left] at this
          exact this
        have hpv := push_valid (C ++ [y]) a hv
        rw [pushL_yes _ _ _ hm] at hpv
        rw [validB_iff] at h2 hpv ⊢
        have p := List.pairwise_append.1 h2.2
        refine ⟨fun z hz => ?_, List.pairwise_append.2 ⟨hpv.2, p.2.1, fun z hz w hw => ?_⟩⟩
        · rcases List.mem_append.1 hz with hz | hz
          · exact hpv.1 z hz
          · exact h2.1 z (List.mem_append_right _ hz)
        · rcases List.mem_append.1 hz with hz | hz
          · exact p.2.2 z (by simp [hz]) w hw
          · simp at hz; subst hz
            have := p.2.2 a (by simp) w hw
            rw [meets_iff] at hm
            simp only [E.longer]
            omega
theorem join_valid (l : List E) (h : validB l = true) : validB (joinL l) = true := by
  have := join_append_valid l [] (by simpa using h)
  simpa using this
/-- Two lists with a gap between them are joined apart. -/
theorem pushAll_apart (R l : List E) (hR : ∀ y ∈ R, ∀ x ∈ l, y.a + y.n < x.a) : pushAll R l = R ++ joinL l := by
  induction l using snoc_ind with
  | h0 => simp [pushAll, joinL]
  | h1 l x ih =>
    have e : pushAll R (l ++ [x]) = pushL (pushAll R l) x := by simp [pushAll]
    rw [e, joinL_snoc, ih fun y hy z hz => hR y hy z (List.mem_append_left _ hz)]
    by_cases h0 : joinL l = []
    · rw [h0, pushL_nil, List.append_nil]
      by_cases hr : R = []
      · subst hr; rfl
      · obtain ⟨C, y, rfl⟩ := snoc_of R hr
        refine pushL_no _ _ _ ?_
        have := hR y (by simp) x (by simp)
        cases hm : meets y x with
        | false => rfl
        | true => rw [meets_iff] at hm; omega
    · obtain ⟨C, y, hc⟩ := snoc_of _ h0
      rw [hc, ← List.append_assoc]
      cases hm : meets y x
      · rw [pushL_no _ _ _ hm, pushL_no _ _ _ hm, ← List.append_assoc, ← List.append_assoc]
      · rw [pushL_yes _ _ _ hm, pushL_yes _ _ _ hm, ← List.append_assoc]
/-- What Put leaves, and where the new extent goes. -/
def putL (l : List E) (x : E) : List E := joinL (partsL l 0 x.a ++ ([x] ++ partsL l (x.a + x.n) 65536))
def idxP (l : List E) (p : Int) : Nat := (l.findIdx? fun y => decide (p < y.a)).getD l.length
def insertAt (l : List E) (i : Nat) (x : E) : List E := l.take i ++ ([x] ++ l.drop i)
theorem put_cut (l : List E) (x : E) (hx : 0 < x.n) (hv : validB l = true) :
    cutL l x.a x.n = joinL (partsL l 0 x.a) ++ joinL (partsL l (x.a + x.n) 65536) := by
  rw [cutL_eq l x.a x.n (by omega) hv, joinL_append]
  refine pushAll_apart _ _ fun y hy z hz => ?_
  have h1 := join_range (partsL l 0 x.a) 0 x.a (fun w hw => by have := (okB_iff w).1 (partsL_ok l 0 x.a (validB_ok hv) w hw); omega) (parts_range l 0 x.a) y hy
  have h2 := parts_range l (x.a + x.n) 65536 z hz
  omega
theorem findIdx_split (A B : List E) (f : E → Bool) (hA : ∀ x ∈ A, f x = false) (hB : ∀ x ∈ B, f x = true) : ((A ++ B).findIdx? f).getD (A ++ B).length = A.length := by
  rw [List.findIdx?_append, List.findIdx?_eq_none_iff.2 hA]
  cases B with
  | nil => simp
  | cons b B => simp [List.findIdx?_cons, hB b (by simp)]
theorem put_insert (l : List E) (x : E) (hx : okB x = true) (hv : validB l = true) :
    idxP (cutL l x.a x.n) x.a ≤ (cutL l x.a x.n).length ∧ validB (insertAt (cutL l x.a x.n) (idxP (cutL l x.a x.n) x.a) x) = true ∧ joinL (insertAt (cutL l x.a x.n) (idxP (cutL l x.a x.n) x.a) x) = putL l x := by
  have hx' := (okB_iff x).1 hx
  have hok := validB_ok hv
  have nn1 : ∀ w ∈ partsL l 0 x.a, 0 ≤ w.n := fun w hw => by have := (okB_iff w).1 (partsL_ok l 0 x.a hok w hw); omega
  have nn2 : ∀ w ∈ partsL l (x.a + x.n) 65536, 0 ≤ w.n := fun w hw => by have := (okB_iff w).1 (partsL_ok l (x.a + x.n) 65536 hok w hw); omega
  have r1 := join_range _ 0 x.a nn1 (parts_range l 0 x.a)
  have r2 := join_range _ (x.a + x.n) 65536 nn2 (parts_range l (x.a + x.n) 65536)
  have k1 := joinL_ok _ (partsL_ok l 0 x.a hok)
  have k2 := joinL_ok _ (partsL_ok l (x.a + x.n) 65536 hok)
  have hc := put_cut l x (by omega) hv
  have hi : idxP (cutL l x.a x.n) x.a = (joinL (partsL l 0 x.a)).length := by
    unfold idxP
    rw [hc]
    refine findIdx_split _ _ _ (fun y hy => ?_) (fun y hy => ?_)
    · have := r1 y hy; have := (okB_iff y).1 (k1 y hy); simp; omega
    · have := r2 y hy; simp; omega
  have hins : insertAt (cutL l x.a x.n) (idxP (cutL l x.a x.n) x.a) x = joinL (partsL l 0 x.a) ++ ([x] ++ joinL (partsL l (x.a + x.n) 65536)) := by
    unfold insertAt
    rw [hi, hc, List.take_left, List.drop_left]
  refine ⟨by rw [hi, hc]; simp, ?_, ?_⟩
  · rw [hins, validB_iff]
    have v1 := (validB_iff _).1 (join_valid _ (parts_valid l 0 x.a hv))
    have v2 := (validB_iff _).1 (join_valid _ (parts_valid l (x.a + x.n) 65536 hv))
    refine ⟨fun y hy => ?_, List.pairwise_append.2 ⟨v1.2, List.pairwise_append.2 ⟨by simp, v2.2, fun y hy z hz => ?_⟩, fun y hy z hz => ?_⟩⟩
    · rcases List.mem_append.1 hy with hy | hy
      · exact v1.1 y hy
      · rcases List.mem_append.1 hy with hy | hy
        · simp at hy; subst hy; exact hx
        · exact v2.1 y hy
    · simp at hy; subst hy
      have := r2 z hz; omega
    · have a1 := r1 y hy
      rcases List.mem_append.1 hz with hz | hz
      · simp at hz; subst hz; omega
      · have := r2 z hz; omega
  · rw [hins, joinL_append, joinL_join, putL, joinL_append]
    show pushAll (joinL (partsL l 0 x.a)) ([x] ++ joinL _) = pushAll (joinL (partsL l 0 x.a)) ([x] ++ partsL l (x.a + x.n) 65536)
    have e : ∀ R M : List E, pushAll R ([x] ++ M) = pushAll (pushL R x) M := fun R M => by simp [pushAll]
    rw [e, e, pushAll_join]
theorem put_valid (l : List E) (x : E) (hx : okB x = true) (hv : validB l = true) : validB (partsL l 0 x.a ++ ([x] ++ partsL l (x.a + x.n) 65536)) = true := by
  have hx' := (okB_iff x).1 hx
  rw [validB_iff]
  have v1 := (validB_iff _).1 (parts_valid l 0 x.a hv)
  have v2 := (validB_iff _).1 (parts_valid l (x.a + x.n) 65536 hv)
  have r1 := parts_range l 0 x.a
  have r2 := parts_range l (x.a + x.n) 65536
  refine ⟨fun y hy => ?_, List.pairwise_append.2 ⟨v1.2, List.pairwise_append.2 ⟨by simp, v2.2, fun y hy z hz => ?_⟩, fun y hy z hz => ?_⟩⟩
  · rcases List.mem_append.1 hy with hy | hy
    · exact v1.1 y hy
    · rcases List.mem_append.1 hy with hy | hy
      · simp at hy; subst hy; exact hx
      · exact v2.1 y hy
  · simp at hy; subst hy
    have := r2 z hz; omega
  · have a1 := r1 y hy
    rcases List.mem_append.1 hz with hz | hz
    · simp at hz; subst hz; omega
    · have := r2 z hz; omega

/-- What IndexFunc returns. -/
def idxR (l : List E) (f : E → Bool) : Int := match l.findIdx? f with | some i => (i : Int) | none => -1
theorem idxR_none (l : List E) (f : E → Bool) (h : ∀ x ∈ l, f x = false) : idxR l f = -1 := by
  unfold idxR; rw [List.findIdx?_eq_none_iff.2 h]
theorem idxR_at (l : List E) (f : E → Bool) (k : Nat) (hk : k < l.length) (h : ∀ x ∈ l.take k, f x = false) (hf : f l[k] = true) : idxR l f = k := by
  unfold idxR
  have e : l.findIdx? f = (l.take k ++ l[k] :: l.drop (k + 1)).findIdx? f := by rw [← split_at l k hk]
  rw [e, List.findIdx?_append, List.findIdx?_eq_none_iff.2 h, List.findIdx?_cons, if_pos hf]
  simp only [Option.none_or, Option.map_some, List.length_take]
  omega
theorem take_succ_false (l : List E) (f : E → Bool) (k : Nat) (hk : k < l.length) (h : ∀ x ∈ l.take k, f x = false) (hf : f l[k] = false) : ∀ x ∈ l.take (k + 1), f x = false := by
  intro x hx
  rw [List.take_succ_eq_append_getElem hk] at hx
  rcases List.mem_append.1 hx with hx | hx
  · exact h x hx
  · simp at hx; rw [hx]; exact hf
theorem idxR_put (l : List E) (p : Int) : (idxR l (fun y => decide (p < y.a)) < 0 ∧ idxP l p = l.length) ∨ (idxR l (fun y => decide (p < y.a)) = (idxP l p : Int)) := by
  unfold idxR idxP
  cases l.findIdx? fun y => decide (p < y.a) with
  | none => left; simp
  | some i => right; simp

end Go.Proofs.Ytnfaciageadlkaa

namespace Go.Proofs.Ytnfaciageadlkaa
set_option linter.unusedSimpArgs false
set_option linter.unusedVariables false
set_option maxRecDepth 100000

/-! ### Block by block -/
def E.cell (x : E) (i : Nat) : E := ⟨x.a + i, 1, x.s + i⟩
def E.all (x : E) : List E := (List.range x.n.toNat).map x.cell
theorem pushAll_append (R A B : List E) : pushAll R (A ++ B) = pushAll (pushAll R A) B := by simp [pushAll]
theorem pushAll_range (R : List E) (x : E) (k : Nat) : pushAll R ((List.range (k + 1)).map x.cell) = pushL R ⟨x.a, k + 1, x.s⟩ := by
  induction k with
  | zero => simp [pushAll, E.cell]
  | succ k ih =>
    rw [List.range_succ, List.map_append, pushAll_append, ih]
    have h := push_divided R ⟨x.a, ((k + 1 : Nat) : Int) + 1, x.s⟩ ((k : Int) + 1)
    have e1 : (⟨x.a, ((k + 1 : Nat) : Int) + 1, x.s⟩ : E).fst ((k : Int) + 1) = ⟨x.a, (k : Int) + 1, x.s⟩ := rfl
    have e2 : (⟨x.a, ((k + 1 : Nat) : Int) + 1, x.s⟩ : E).snd ((k : Int) + 1) = x.cell (k + 1) := E.ext' (by simp [E.snd, E.cell]) (by simp only [E.snd, E.cell]; omega) (by simp [E.snd, E.cell])
    rw [e1, e2] at h
    rw [← h]
    simp [pushAll]
theorem pushAll_all (R : List E) (x : E) (h : 1 ≤ x.n) : pushAll R x.all = pushL R x := by
  obtain ⟨k, hk⟩ : ∃ k : Nat, x.n = (k : Int) + 1 := ⟨(x.n - 1).toNat, by omega⟩
  have h1 := pushAll_range R x k
  have e1 : x.n.toNat = k + 1 := by omega
  have e2 : (⟨x.a, (k : Int) + 1, x.s⟩ : E) = x := E.ext' rfl hk.symm rfl
  rw [e2] at h1
  unfold E.all
  rw [e1]
  exact h1
theorem join_all (l : List E) : (∀ x ∈ l, okB x = true) → joinL (l.flatMap E.all) = joinL l := by
  induction l using snoc_ind with
  | h0 => intro _; rfl
  | h1 l x ih =>
    intro h
    have hx := (okB_iff x).1 (h x (by simp))
    rw [List.flatMap_append, joinL_append, ih (fun y hy => h y (List.mem_append_left _ hy)), joinL_snoc]
    have : List.flatMap E.all [x] = x.all := by simp
    rw [this]
    exact pushAll_all _ x (by omega)
theorem mem_all (l : List E) (h : validB l = true) (e : E) : e ∈ l.flatMap E.all ↔ e.n = 1 ∧ slotAt l e.a = some e.s := by
  constructor
  · intro he
    obtain ⟨x, hx, he⟩ := List.mem_flatMap.1 he
    obtain ⟨i, hi, rfl⟩ := List.mem_map.1 he
    have hi' := List.mem_range.1 hi
    refine ⟨rfl, ?_⟩
    rw [slotAt_mem l h x hx _ (by rw [hits_iff]; simp only [E.cell]; omega)]
    simp only [E.cell, Option.some.injEq]
    omega
  · rintro ⟨h1, h2⟩
    unfold slotAt at h2
    obtain ⟨x, hx, hs⟩ := Option.map_eq_some_iff.1 h2
    have hm := List.mem_of_find?_eq_some hx
    have hh := (hits_iff _ _).1 (List.find?_some hx)
    refine List.mem_flatMap.2 ⟨x, hm, List.mem_map.2 ⟨(e.a - x.a).toNat, List.mem_range.2 (by omega), ?_⟩⟩
    exact E.ext' (by simp only [E.cell]; omega) (by simp only [E.cell]; omega) (by simp only [E.cell]; omega)
theorem sorted_all (l : List E) (h : validB l = true) : (l.flatMap E.all).Pairwise (fun x y => x.a < y.a) := by
  rw [validB_iff] at h
  rw [List.pairwise_flatMap]
  refine ⟨fun x hx => ?_, h.2.imp_of_mem ?_⟩
  · unfold E.all
    rw [List.pairwise_map]
    refine (List.pairwise_lt_range).imp ?_
    intro i j hij
    simp only [E.cell]
    omega
  · intro x y hx hy hxy a ha b hb
    obtain ⟨i, hi, rfl⟩ := List.mem_map.1 ha
    obtain ⟨j, hj, rfl⟩ := List.mem_map.1 hb
    have := List.mem_range.1 hi
    simp only [E.cell]
    omega
theorem sorted_ext (A : List E) : ∀ B : List E, A.Pairwise (fun x y => x.a < y.a) → B.Pairwise (fun x y => x.a < y.a) → (∀ e, e ∈ A ↔ e ∈ B) → A = B := by
  induction A with
  | nil =>
    intro B _ _ h
    cases B with
    | nil => rfl
    | cons y B => exact absurd ((h y).2 (by simp)) (by simp)
  | cons x A ih =>
    intro B hA hB h
    cases B with
    | nil => exact absurd ((h x).1 (by simp)) (by simp)
    | cons y B =>
      obtain ⟨a1, a2⟩ := List.pairwise_cons.1 hA
      obtain ⟨b1, b2⟩ := List.pairwise_cons.1 hB
      have hxy : x = y := by
        rcases List.mem_cons.1 ((h x).1 (by simp)) with e | e
        · exact e
        · rcases List.mem_cons.1 ((h y).2 (by simp)) with e2 | e2
          · exact e2.symm
          · have := a1 y e2; have := b1 x e; omega
      subst hxy
      congr 1
      refine ih B a2 b2 fun e => ⟨fun he => ?_, fun he => ?_⟩
      · rcases List.mem_cons.1 ((h e).1 (by simp [he])) with e2 | e2
        · subst e2; have := a1 e he; omega
        · exact e2
      · rcases List.mem_cons.1 ((h e).2 (by simp [he])) with e2 | e2
        · subst e2; have := b1 e he; omega
        · exact e2
/-- Valid lists that map the same blocks to the same slots have one normal form. -/
theorem join_unique (A B : List E) (hA : validB A = true) (hB : validB B = true) (h : ∀ p, slotAt A p = slotAt B p) : joinL A = joinL B := by
  rw [← join_all A (validB_ok hA), ← join_all B (validB_ok hB)]
  congr 1
  refine sorted_ext _ _ (sorted_all A hA) (sorted_all B hB) fun e => ?_
  rw [mem_all A hA, mem_all B hB, h]

/-! ### What parts, Put, Cut map -/
theorem slotAt_none (l : List E) (p : Int) (h : ∀ x ∈ l, hits p x = false) : slotAt l p = none := by
  unfold slotAt
  rw [List.find?_eq_none.2 fun x hx => by simp [h x hx]]
  rfl
theorem slotAt_parts (l : List E) (f t p : Int) : slotAt (partsL l f t) p = if f ≤ p ∧ p < t then slotAt l p else none := by
  split
  · rename_i hp
    induction l with
    | nil => rfl
    | cons x r ih =>
      have e : slotAt (x :: r) p = (slotAt [x] p).or (slotAt r p) := slotAt_append [x] r p
      have e2 : partsL (x :: r) f t = partsL [x] f t ++ partsL r f t := by
        unfold partsL
        rw [← List.map_append, ← List.filter_append]
        rfl
      rw [e, e2, slotAt_append, ih]
      congr 1
      unfold partsL
      cases hb : partB x f t
      · simp only [List.filter_cons, hb, List.filter_nil, List.map_nil, if_false, Bool.false_eq_true]
        rw [slotAt_one]
        rw [if_neg]
        · rfl
        · rw [hits_iff]
          simp only [partB, decide_eq_false_iff_not] at hb
          omega
      · simp only [List.filter_cons, hb, List.filter_nil, List.map_nil, if_true, List.map_cons]
        rw [slotAt_one, slotAt_one]
        have e3 : hits p (partE x f t) = hits p x := by
          rw [Bool.eq_iff_iff, hits_iff, hits_iff]
          simp only [partE]
          omega
        rw [e3]
        congr 1
        simp only [partE, Option.some.injEq]
        omega
  · rename_i hp
    refine slotAt_none _ _ fun x hx => ?_
    have := parts_range l f t x hx
    cases hh : hits p x with
    | false => rfl
    | true => rw [hits_iff] at hh; omega
theorem slotAt_range (l : List E) (h : validB l = true) (p : Int) (hp : p < 0 ∨ 65536 ≤ p) : slotAt l p = none :=
  slotAt_none _ _ fun x hx => by
    have := (okB_iff x).1 (validB_ok h x hx)
    cases hh : hits p x with
    | false => rfl
    | true => rw [hits_iff] at hh; omega
theorem slotAt_cut (l : List E) (p n q : Int) (hp : withinB p n 65536 = true) (hv : validB l = true) : slotAt (cutL l p n) q = if p ≤ q ∧ q < p + n then none else slotAt l q := by
  have hp' : 0 ≤ p ∧ 0 ≤ n ∧ p ≤ 65536 ∧ n ≤ 65536 - p := by simpa [withinB] using hp
  rw [cutL_eq l p n (by omega) hv, slotAt_join _ _ (validB_ok (parts_append_valid l 0 p (p + n) 65536 hv (by omega))), slotAt_append, slotAt_parts, slotAt_parts]
  by_cases h1 : q < 0 ∨ 65536 ≤ q
  · rw [slotAt_range l hv q h1]
    simp
  · by_cases h2 : q < p
    · rw [if_pos (by omega), if_neg (by omega), if_neg (by omega)]
      simp
    · by_cases h3 : q < p + n
      · rw [if_neg (by omega), if_neg (by omega), if_pos (by omega)]
        rfl
      · rw [if_neg (by omega), if_pos (by omega), if_neg (by omega)]
        simp
theorem slotAt_in (l : List E) (p n q : Int) (hv : validB l = true) : slotAt (inL l p n) q = if p ≤ q ∧ q < p + n then slotAt l q else none := by
  rw [inL_eq, slotAt_join _ _ (validB_ok (parts_valid l p (p + n) hv)), slotAt_parts]
theorem slotAt_put (l : List E) (x : E) (q : Int) (hx : okB x = true) (hv : validB l = true) : slotAt (putL l x) q = if x.a ≤ q ∧ q < x.a + x.n then some (x.s + q - x.a) else slotAt l q := by
  have hx' := (okB_iff x).1 hx
  unfold putL
  rw [slotAt_join _ _ (validB_ok (put_valid l x hx hv)), slotAt_append, slotAt_append, slotAt_parts, slotAt_parts, slotAt_one]
  by_cases h1 : q < 0 ∨ 65536 ≤ q
  · have hh : hits q x = false := by
      cases hh : hits q x with
      | false => rfl
      | true => rw [hits_iff] at hh; omega
    rw [slotAt_range l hv q h1, if_neg (show ¬ (x.a ≤ q ∧ q < x.a + x.n) by omega), hh]
    simp
  · by_cases h2 : q < x.a
    · have hh : hits q x = false := by
        cases hh : hits q x with
        | false => rfl
        | true => rw [hits_iff] at hh; omega
      rw [if_pos (by omega), hh, if_neg (show ¬ (x.a + x.n ≤ q ∧ q < 65536) by omega), if_neg (show ¬ (x.a ≤ q ∧ q < x.a + x.n) by omega)]
      simp
    · by_cases h3 : q < x.a + x.n
      · have hh : hits q x = true := by rw [hits_iff]; omega
        rw [if_neg (by omega), hh, if_pos (show x.a ≤ q ∧ q < x.a + x.n by omega)]
        simp
      · have hh : hits q x = false := by
          cases hh : hits q x with
          | false => rfl
          | true => rw [hits_iff] at hh; omega
        rw [if_neg (show ¬ (0 ≤ q ∧ q < x.a) by omega), hh, if_pos (show x.a + x.n ≤ q ∧ q < 65536 by omega), if_neg (show ¬ (x.a ≤ q ∧ q < x.a + x.n) by omega)]
        simp
theorem putL_valid (l : List E) (x : E) (hx : okB x = true) (hv : validB l = true) : validB (putL l x) = true := join_valid _ (put_valid l x hx hv)
theorem cutL_valid (l : List E) (p n : Int) (hn : 0 ≤ n) (hv : validB l = true) : validB (cutL l p n) = true := by
  rw [cutL_eq l p n hn hv]
  exact join_valid _ (parts_append_valid l 0 p (p + n) 65536 hv (by omega))
theorem inL_valid (l : List E) (p n : Int) (hv : validB l = true) : validB (inL l p n) = true := by
  rw [inL_eq]
  exact join_valid _ (parts_valid l p (p + n) hv)
/-- A valid list is short. -/
theorem validFrom_short (l : List E) : ∀ e, 0 ≤ e → e ≤ 65536 → validFrom e l = true → (l.length : Int) + e ≤ 65536 := by
  induction l with
  | nil => intro e _ h _; simpa using h
  | cons x r ih =>
    intro e h0 _ h
    simp only [validFrom, Bool.and_eq_true, decide_eq_true_eq] at h
    have hx := (okB_iff x).1 h.1
    have := ih (x.a + x.n) (by omega) (by omega) h.2.2
    simp only [List.length_cons]
    omega
theorem valid_short {l : List E} (h : validB l = true) : l.length ≤ 65536 := by
  have := validFrom_short l 0 (by omega) (by omega) h
  omega

/-! ### Putting what was removed back again -/
theorem in_put (l : List E) (x : E) (hx : okB x = true) (hv : validB l = true) : inL (putL l x) x.a x.n = [x] := by
  have h1 : validB [x] = true := by rw [validB_iff]; exact ⟨fun y hy => by simp at hy; subst hy; exact hx, by simp⟩
  have hp := putL_valid l x hx hv
  have e : joinL [x] = [x] := rfl
  rw [inL_eq, ← e]
  refine join_unique _ _ (parts_valid _ _ _ hp) h1 fun q => ?_
  rw [slotAt_parts, slotAt_put l x q hx hv, slotAt_one]
  by_cases h : x.a ≤ q ∧ q < x.a + x.n
  · rw [if_pos h, if_pos h, if_pos ((hits_iff q x).2 h)]
  · rw [if_neg h, if_neg (fun c => h ((hits_iff q x).1 c))]
def putAll (o : List E) (R : List E) : List E := R.foldl putL o
theorem putAll_take (o R : List E) (k : Nat) (h : k < R.length) : putAll o (R.take (k + 1)) = putL (putAll o (R.take k)) R[k] := by
  unfold putAll; rw [List.take_succ_eq_append_getElem h, List.foldl_append]; rfl
theorem putAll_facts (o : List E) (ho : validB o = true) (hn : joinL o = o) (R : List E) : validB R = true → validB (putAll o R) = true ∧ joinL (putAll o R) = putAll o R ∧ ∀ q, slotAt (putAll o R) q = (slotAt R q).or (slotAt o q) := by
  induction R using snoc_ind with
  | h0 => intro _; exact ⟨ho, hn, fun q => rfl⟩
  | h1 R x ih =>
    intro hR
    have hxo : okB x = true := validB_ok hR x (by simp)
    have hRR : validB R = true := by
      have := validB_mono _ R.length hR
      rw [List.take_left] at this
      exact this
    obtain ⟨i1, i2, i3⟩ := ih hRR
    have e : putAll o (R ++ [x]) = putL (putAll o R) x := by simp [putAll]
    rw [e]
    refine ⟨putL_valid _ _ hxo i1, joinL_join _, fun q => ?_⟩
    rw [slotAt_put _ _ _ hxo i1, i3]
    by_cases h : x.a ≤ q ∧ q < x.a + x.n
    · rw [if_pos h, slotAt_mem _ hR x (by simp) q ((hits_iff q x).2 h)]
      rfl
    · rw [if_neg h, slotAt_append, slotAt_one, if_neg (fun c => h ((hits_iff q x).1 c))]
      simp
theorem restores (l : List E) (x : E) (hx : okB x = true) (hv : validB l = true) : putAll (cutL (putL l x) x.a x.n) (inL l x.a x.n) = joinL l := by
  have hx' := (okB_iff x).1 hx
  have hp := putL_valid l x hx hv
  have hw : withinB x.a x.n 65536 = true := by simp [withinB]; omega
  have hc := cutL_valid (putL l x) x.a x.n (by omega) hp
  have hcn : joinL (cutL (putL l x) x.a x.n) = cutL (putL l x) x.a x.n := by
    rw [cutL_eq _ _ _ (by omega) hp]
    exact joinL_join _
  obtain ⟨f1, f2, f3⟩ := putAll_facts _ hc hcn (inL l x.a x.n) (inL_valid l x.a x.n hv)
  rw [← f2]
  refine join_unique _ _ f1 hv fun q => ?_
  rw [f3, slotAt_in _ _ _ _ hv, slotAt_cut _ _ _ _ hw hp, slotAt_put _ _ _ hx hv]
  by_cases h : x.a ≤ q ∧ q < x.a + x.n
  · rw [if_pos h, if_pos h]; simp
  · rw [if_neg h, if_neg h, if_neg h]; simp
end Go.Proofs.Ytnfaciageadlkaa

namespace Go.Proofs.Ytnfaciageadlkaa
set_option linter.unusedSimpArgs false
set_option linter.unusedVariables false
set_option maxRecDepth 100000

def Has (l : List E) (s : Int) : Prop := ∃ x ∈ l, okB x = true ∧ x.s ≤ s ∧ s < x.s + x.n
/-- Runs in ascending order, with gaps between them. -/
def Canon (R : List E) : Prop := (∀ x ∈ R, x.a = 0 ∧ okB x = true) ∧ R.Pairwise (fun x y => x.s + x.n < y.s)
def E.plain (x : E) : E := ⟨x.s, x.n, x.s⟩
theorem has_append (A B : List E) (s : Int) : Has (A ++ B) s ↔ Has A s ∨ Has B s := by
  unfold Has
  constructor
  · rintro ⟨x, hx, h⟩
    rcases List.mem_append.1 hx with hx | hx
    · exact .inl ⟨x, hx, h⟩
    · exact .inr ⟨x, hx, h⟩
  · rintro (⟨x, hx, h⟩ | ⟨x, hx, h⟩)
    · exact ⟨x, List.mem_append_left _ hx, h⟩
    · exact ⟨x, List.mem_append_right _ hx, h⟩
theorem has_one (x : E) (s : Int) : Has [x] s ↔ okB x = true ∧ x.s ≤ s ∧ s < x.s + x.n := by
  unfold Has; simp
theorem has_one' (x : E) (s : Int) (h : okB x = true) : Has [x] s ↔ x.s ≤ s ∧ s < x.s + x.n := by
  rw [has_one]; exact ⟨fun h => h.2, fun g => ⟨h, g⟩⟩
theorem has_nil (s : Int) : ¬ Has [] s := by unfold Has; simp
theorem join_gap (l : List E) : l.Pairwise (fun x y => x.a + x.n < y.a) → joinL l = l := by
  induction l with
  | nil => intro _; rfl
  | cons x r ih =>
    intro h
    obtain ⟨h1, h2⟩ := List.pairwise_cons.1 h
    have e : joinL (x :: r) = pushAll [x] r := rfl
    rw [e, pushAll_apart [x] r (fun y hy z hz => by simp at hy; subst hy; exact h1 z hz), ih h2]
    rfl
theorem plain_valid {R : List E} (h : Canon R) : validB (R.map E.plain) = true := by
  rw [validB_iff]
  refine ⟨fun y hy => ?_, ?_⟩
  · obtain ⟨x, hx, rfl⟩ := List.mem_map.1 hy
    have := (okB_iff x).1 (h.1 x hx).2
    rw [okB_iff]
    simp only [E.plain]
    omega
  · rw [List.pairwise_map]
    refine h.2.imp ?_
    intro x y hxy
    simp only [E.plain]
    omega
theorem plain_slot {R : List E} (h : Canon R) (p : Int) : (Has R p → slotAt (R.map E.plain) p = some p) ∧ (¬ Has R p → slotAt (R.map E.plain) p = none) := by
  refine ⟨?_, fun hn => ?_⟩
  · rintro ⟨x, hx, h1, h2⟩
    rw [slotAt_mem _ (plain_valid h) x.plain (List.mem_map.2 ⟨x, hx, rfl⟩) p ((hits_iff _ _).2 (by simp only [E.plain]; omega))]
    simp only [E.plain, Option.some.injEq]
    omega
  · refine slotAt_none _ _ fun y hy => ?_
    obtain ⟨x, hx, rfl⟩ := List.mem_map.1 hy
    cases hh : hits p x.plain with
    | false => rfl
    | true =>
      rw [hits_iff] at hh
      simp only [E.plain] at hh
      exact absurd ⟨x, hx, (h.1 x hx).2, hh.1, hh.2⟩ hn
/-- Runs are told by the slots that they have. -/
theorem canon_unique (A B : List E) (hA : Canon A) (hB : Canon B) (h : ∀ s, Has A s ↔ Has B s) : A = B := by
  have e : ∀ R : List E, Canon R → joinL (R.map E.plain) = R.map E.plain := fun R hR => join_gap _ (by
    rw [List.pairwise_map]
    exact hR.2.imp fun hxy => by simp only [E.plain]; exact hxy)
  have hm : A.map E.plain = B.map E.plain := by
    rw [← e A hA, ← e B hB]
    refine join_unique _ _ (plain_valid hA) (plain_valid hB) fun p => ?_
    by_cases hp : Has A p
    · rw [(plain_slot hA p).1 hp, (plain_slot hB p).1 ((h p).1 hp)]
    · rw [(plain_slot hA p).2 hp, (plain_slot hB p).2 (fun c => hp ((h p).2 c))]
  have back : ∀ R : List E, Canon R → (R.map E.plain).map (fun x => (⟨0, x.n, x.s⟩ : E)) = R := fun R hR => by
    rw [List.map_map]
    conv => rhs; rw [← List.map_id R]
    refine List.map_congr_left fun x hx => ?_
    exact E.ext' (hR.1 x hx).1.symm rfl rfl
  rw [← back A hA, ← back B hB, hm]

/-! ### Merging sorted extents -/
def E.upto (y : E) (t : Int) : E := ⟨y.a, max y.n (t - y.s), y.s⟩
def pushR (R : List E) (x : E) : List E :=
  match R.getLast? with
  | some y => if decide (x.s ≤ y.s + y.n) then R.dropLast ++ [y.upto (x.s + x.n)] else R ++ [⟨0, x.n, x.s⟩]
  | none => [⟨0, x.n, x.s⟩]
def mergeL (l : List E) : List E := l.foldl pushR []
theorem pushR_nil (x : E) : pushR [] x = [⟨0, x.n, x.s⟩] := rfl
theorem pushR_yes (l : List E) (y x : E) (h : x.s ≤ y.s + y.n) : pushR (l ++ [y]) x = l ++ [y.upto (x.s + x.n)] := by
  simp [pushR, h]
theorem pushR_no (l : List E) (y x : E) (h : ¬ x.s ≤ y.s + y.n) : pushR (l ++ [y]) x = l ++ [y] ++ [⟨0, x.n, x.s⟩] := by
  simp [pushR, h]
theorem mergeL_snoc (l : List E) (x : E) : mergeL (l ++ [x]) = pushR (mergeL l) x := by simp [mergeL]
theorem mergeL_take (l : List E) (k : Nat) (h : k < l.length) : mergeL (l.take (k + 1)) = pushR (mergeL (l.take k)) l[k] := by
  rw [List.take_succ_eq_append_getElem h, mergeL_snoc]
theorem pushR_length (l : List E) (x : E) : (pushR l x).length ≤ l.length + 1 := by
  by_cases h : l = []
  · subst h; simp [pushR]
  · obtain ⟨l', y, rfl⟩ := snoc_of l h
    by_cases hm : x.s ≤ y.s + y.n
    · rw [pushR_yes _ _ _ hm]; simp
    · rw [pushR_no _ _ _ hm]; simp
theorem mergeL_length (l : List E) : (mergeL l).length ≤ l.length := by
  induction l using snoc_ind with
  | h0 => simp [mergeL]
  | h1 l x ih =>
    rw [mergeL_snoc]
    have := pushR_length (mergeL l) x
    simp
    omega
theorem pushR_facts (R : List E) (x : E) (hR : Canon R) (hx : okB x = true) (hs : ∀ y ∈ R, y.s ≤ x.s) :
    Canon (pushR R x) ∧ (∀ s, Has (pushR R x) s ↔ Has R s ∨ (x.s ≤ s ∧ s < x.s + x.n)) ∧ ∀ y ∈ pushR R x, y.s ≤ x.s := by
  have hx' := (okB_iff x).1 hx
  have hz : okB (⟨0, x.n, x.s⟩ : E) = true := by rw [okB_iff]; simp only; omega
  have hone : ∀ s, Has [(⟨0, x.n, x.s⟩ : E)] s ↔ (x.s ≤ s ∧ s < x.s + x.n) := fun s => by
    rw [has_one]; exact ⟨fun h => h.2, fun h => ⟨hz, h⟩⟩
  by_cases h : R = []
  · subst h
    rw [pushR_nil]
    refine ⟨⟨fun y hy => ?_, by simp⟩, fun s => ?_, fun y hy => ?_⟩
    · simp at hy; subst hy; exact ⟨rfl, hz⟩
    · rw [hone]
      exact ⟨.inr, fun h => h.resolve_left (has_nil s)⟩
    · simp at hy; subst hy; exact Int.le_refl _
  · obtain ⟨C, y, rfl⟩ := snoc_of R h
    obtain ⟨c1, c2⟩ := hR
    obtain ⟨p1, p2, p3⟩ := List.pairwise_append.1 c2
    have hy := c1 y (by simp)
    have hy' := (okB_iff y).1 hy.2
    have hys := hs y (by simp)
    by_cases hm : x.s ≤ y.s + y.n
    · rw [pushR_yes _ _ _ hm]
      have hu : okB (y.upto (x.s + x.n)) = true := by
        rw [okB_iff]
        have := hy.1
        simp only [E.upto]
        omega
      refine ⟨⟨fun z hzz => ?_, ?_⟩, fun s => ?_, fun z hzz => ?_⟩
      · rcases List.mem_append.1 hzz with hzz | hzz
        · exact c1 z (by simp [hzz])
        · simp at hzz; subst hzz; exact ⟨hy.1, hu⟩
      · refine List.pairwise_append.2 ⟨p1, by simp, fun z hzz v hv => ?_⟩
        simp at hv; subst hv
        exact p3 z hzz y (by simp)
      · rw [has_append, has_append, has_one' _ _ hu, has_one' _ _ hy.2]
        show (Has C s ∨ y.s ≤ s ∧ s < y.s + max y.n (x.s + x.n - y.s)) ↔ _
        constructor
        · rintro (h | h)
          · exact .inl (.inl h)
          · by_cases h2 : s < y.s + y.n
            · exact .inl (.inr ⟨h.1, h2⟩)
            · exact .inr (by omega)
        · rintro ((h | h) | h)
          · exact .inl h
          · exact .inr (by omega)
          · exact .inr (by omega)
      · rcases List.mem_append.1 hzz with hzz | hzz
        · exact hs z (by simp [hzz])
        · simp at hzz; subst hzz; exact hys
    · rw [pushR_no _ _ _ hm]
      refine ⟨⟨fun z hzz => ?_, ?_⟩, fun s => ?_, fun z hzz => ?_⟩
      · rcases List.mem_append.1 hzz with hzz | hzz
        · exact c1 z hzz
        · simp at hzz; subst hzz; exact ⟨rfl, hz⟩
      · refine List.pairwise_append.2 ⟨c2, by simp, fun z hzz v hv => ?_⟩
        simp at hv; subst hv
        rcases List.mem_append.1 hzz with hzz | hzz
        · have := p3 z hzz y (by simp)
          simp only
          omega
        · simp at hzz; subst hzz
          simp only
          omega
      · rw [has_append, hone]
      · rcases List.mem_append.1 hzz with hzz | hzz
        · exact hs z hzz
        · simp at hzz; subst hzz; exact Int.le_refl _
theorem mergeL_facts (l : List E) : (∀ x ∈ l, okB x = true) → l.Pairwise (fun x y => x.s ≤ y.s) → Canon (mergeL l) ∧ (∀ s, Has (mergeL l) s ↔ Has l s) ∧ ∀ t, (∀ x ∈ l, x.s ≤ t) → ∀ y ∈ mergeL l, y.s ≤ t := by
  induction l using snoc_ind with
  | h0 => intro _ _; exact ⟨⟨by simp [mergeL], by simp [mergeL]⟩, fun s => Iff.rfl, by simp [mergeL]⟩
  | h1 l x ih =>
    intro h1 h2
    obtain ⟨p1, _, p3⟩ := List.pairwise_append.1 h2
    obtain ⟨i1, i2, i3⟩ := ih (fun y hy => h1 y (by simp [hy])) p1
    obtain ⟨f1, f2, f3⟩ := pushR_facts (mergeL l) x i1 (h1 x (by simp)) (i3 x.s fun y hy => p3 y hy x (by simp))
    rw [mergeL_snoc]
    refine ⟨f1, fun s => ?_, fun t ht y hy => ?_⟩
    · rw [f2, i2, has_append, has_one]
      simp only [h1 x (by simp), true_and]
    · exact Int.le_trans (f3 y hy) (ht x (by simp))
/-- What Runs returns. -/
def runsL (l : List E) : List E := mergeL ((l.filter okB).mergeSort fun x y => decide (x.s ≤ y.s))
theorem has_filter (l : List E) (s : Int) : Has (l.filter okB) s ↔ Has l s := by
  unfold Has
  constructor
  · rintro ⟨x, hx, h⟩
    exact ⟨x, (List.mem_filter.1 hx).1, h⟩
  · rintro ⟨x, hx, h⟩
    exact ⟨x, List.mem_filter.2 ⟨hx, h.1⟩, h⟩
theorem has_mem {A B : List E} (h : ∀ x, x ∈ A ↔ x ∈ B) (s : Int) : Has A s ↔ Has B s := by
  unfold Has
  constructor
  · rintro ⟨x, hx, h2⟩; exact ⟨x, (h x).1 hx, h2⟩
  · rintro ⟨x, hx, h2⟩; exact ⟨x, (h x).2 hx, h2⟩
theorem runs_facts (l : List E) : Canon (runsL l) ∧ ∀ s, Has (runsL l) s ↔ Has l s := by
  have hp := List.mergeSort_perm (l.filter okB) (fun x y => decide (x.s ≤ y.s))
  have hs : ((l.filter okB).mergeSort fun x y => decide (x.s ≤ y.s)).Pairwise (fun x y => decide (x.s ≤ y.s) = true) :=
    List.pairwise_mergeSort (fun x y z h1 h2 => by simp only [decide_eq_true_eq] at *; omega) (fun x y => by simp only [Bool.or_eq_true, decide_eq_true_eq]; omega) _
  obtain ⟨f1, f2, _⟩ := mergeL_facts _ (fun x hx => (List.mem_filter.1 (hp.mem_iff.1 hx)).2) (hs.imp fun h => of_decide_eq_true h)
  exact ⟨f1, fun s => (f2 s).trans ((has_mem (fun x => hp.mem_iff) s).trans (has_filter l s))⟩
theorem runs_is (l R : List E) (h1 : Canon R) (h2 : ∀ s, Has R s ↔ Has l s) : R = runsL l := by
  obtain ⟨f1, f2⟩ := runs_facts l
  exact canon_unique _ _ h1 f1 fun s => (h2 s).trans (f2 s).symm
theorem runs_sorted (l d : List E) (h1 : ∀ x, x ∈ d ↔ x ∈ l.filter okB) (h2 : d.Pairwise (fun x y => x.s ≤ y.s)) : mergeL d = runsL l := by
  obtain ⟨f1, f2, _⟩ := mergeL_facts d (fun x hx => (List.mem_filter.1 ((h1 x).1 hx)).2) h2
  exact runs_is _ _ f1 fun s => (f2 s).trans ((has_mem h1 s).trans (has_filter l s))
theorem runs_mem {A B : List E} (h : ∀ x, x ∈ A ↔ x ∈ B) : runsL A = runsL B := by
  obtain ⟨f1, f2⟩ := runs_facts A
  exact runs_is _ _ f1 fun s => (f2 s).trans (has_mem h s)
theorem runs_again (l : List E) : runsL (runsL l) = runsL l := by
  obtain ⟨f1, _⟩ := runs_facts l
  exact (runs_is (runsL l) _ f1 fun s => Iff.rfl).symm
theorem canon_short {R : List E} (h : Canon R) : R.length ≤ 65536 := by
  have := valid_short (plain_valid h)
  simpa using this

/-! ### The reference's rounds -/
/-- R holds the runs of what lies below e. -/
structure Below_ (l R : List E) (e : Int) : Prop where
  canon : Canon R
  e0 : 0 ≤ e
  e1 : e ≤ 65536
  ends : ∀ y ∈ R, y.s + y.n ≤ e
  has : ∀ s, Has R s ↔ Has l s ∧ s < e
/-- The least slot from e on, among the first extents. -/
def Least (l : List E) (e next : Int) (found : Bool) : Prop :=
  (found = false ∧ ∀ x ∈ l, okB x = true → x.s + x.n ≤ e) ∨
  (found = true ∧ (∃ x ∈ l, okB x = true ∧ e < x.s + x.n ∧ next = max x.s e) ∧ ∀ x ∈ l, okB x = true → e < x.s + x.n → next ≤ max x.s e)
/-- The greatest end among the first extents that contain 'next'. -/
def Greatest (l : List E) (next t : Int) : Prop :=
  next ≤ t ∧ (t = next ∨ ∃ x ∈ l, okB x = true ∧ x.s ≤ next ∧ t = x.s + x.n) ∧ ∀ x ∈ l, okB x = true → x.s ≤ next → x.s + x.n ≤ t
def grow (R : List E) (next t : Int) : List E :=
  match R.getLast? with
  | some y => if decide (y.s + y.n = next) then R.dropLast ++ [y.longer (t - next)] else R ++ [⟨0, t - next, next⟩]
  | none => [⟨0, t - next, next⟩]
theorem grow_nil (next t : Int) : grow [] next t = [⟨0, t - next, next⟩] := rfl
theorem grow_yes (l : List E) (y : E) (next t : Int) (h : y.s + y.n = next) : grow (l ++ [y]) next t = l ++ [y.longer (t - next)] := by simp [grow, h]
theorem grow_no (l : List E) (y : E) (next t : Int) (h : ¬ y.s + y.n = next) : grow (l ++ [y]) next t = l ++ [y] ++ [⟨0, t - next, next⟩] := by simp [grow, h]
theorem below_nil (l : List E) : Below_ l [] 0 := by
  refine ⟨⟨by simp, by simp⟩, by omega, by omega, by simp, fun s => ⟨fun h => absurd h (has_nil s), fun ⟨⟨x, hx, h1, h2⟩, h3⟩ => ?_⟩⟩
  have := (okB_iff x).1 h1
  omega
theorem below_end {l R : List E} {e next : Int} (h : Below_ l R e) (hf : Least l e next false) : R = runsL l := by
  refine runs_is l R h.canon fun s => ?_
  rw [h.has]
  refine ⟨fun h => h.1, fun hs => ⟨hs, ?_⟩⟩
  obtain ⟨x, hx, h1, h2⟩ := hs
  rcases hf with ⟨_, hf⟩ | ⟨hf, _⟩
  · have := hf x hx h1; omega
  · cases hf
theorem least_bounds {l R : List E} {e next : Int} (h : Below_ l R e) (hf : Least l e next true) : e ≤ next ∧ next < 65536 := by
  rcases hf with ⟨hf, _⟩ | ⟨_, ⟨x, hx, h1, h2, h3⟩, _⟩
  · cases hf
  · have := (okB_iff x).1 h1
    omega
theorem below_step {l R : List E} {e next t : Int} (h : Below_ l R e) (hf : Least l e next true) (hg : Greatest l next t) : Below_ l (grow R next t) t ∧ next < t ∧ t ≤ 65536 := by
  rcases hf with ⟨hf, _⟩ | ⟨_, ⟨x, hx, x1, x2, x3⟩, hmin⟩
  · cases hf
  · obtain ⟨g1, g2, g3⟩ := hg
    have hx' := (okB_iff x).1 x1
    have hxt := g3 x hx x1 (by omega)
    have hnt : next < t := by omega
    have ht : t ≤ 65536 := by
      rcases g2 with rfl | ⟨z, hz, z1, z2, z3⟩
      · omega
      · have := (okB_iff z).1 z1; omega
    have e0 := h.e0
    have en : e ≤ next := by omega
    have hnew : ∀ s, (next ≤ s ∧ s < t) → Has l s := fun s hs => by
      rcases g2 with rfl | ⟨z, hz, z1, z2, z3⟩
      · omega
      · exact ⟨z, hz, z1, by omega, by omega⟩
    have hgap : ∀ s, e ≤ s → s < next → ¬ Has l s := fun s h1 h2 ⟨z, hz, z1, z2, z3⟩ => by
      have := hmin z hz z1 (by omega)
      omega
    have hok : okB (⟨0, t - next, next⟩ : E) = true := by rw [okB_iff]; simp only; omega
    have key : ∀ s, (Has R s ∨ (next ≤ s ∧ s < t)) ↔ (Has l s ∧ s < t) := fun s => by
      rw [h.has]
      constructor
      · rintro (⟨h1, h2⟩ | h1)
        · exact ⟨h1, by omega⟩
        · exact ⟨hnew s h1, h1.2⟩
      · rintro ⟨h1, h2⟩
        by_cases h3 : s < e
        · exact .inl ⟨h1, h3⟩
        · by_cases h4 : s < next
          · exact absurd h1 (hgap s (by omega) h4)
          · exact .inr ⟨by omega, h2⟩
    refine ⟨?_, hnt, ht⟩
    by_cases hR : R = []
    · subst hR
      rw [grow_nil]
      refine ⟨⟨fun y hy => ?_, by simp⟩, by omega, ht, fun y hy => ?_, fun s => ?_⟩
      · simp at hy; subst hy; exact ⟨rfl, hok⟩
      · simp at hy; subst hy; simp only; omega
      · rw [← key s, has_one]
        simp only [hok, true_and]
        constructor
        · intro hh; exact .inr (by omega)
        · rintro (hh | hh)
          · exact absurd hh (has_nil s)
          · omega
    · obtain ⟨C, y, rfl⟩ := snoc_of R hR
      obtain ⟨c1, c2⟩ := h.canon
      obtain ⟨p1, p2, p3⟩ := List.pairwise_append.1 c2
      have hy := c1 y (by simp)
      have hy' := (okB_iff y).1 hy.2
      have hye := h.ends y (by simp)
      by_cases hm : y.s + y.n = next
      · rw [grow_yes _ _ _ _ hm]
        have hu : okB (y.longer (t - next)) = true := by
          rw [okB_iff]
          have := hy.1
          simp only [E.longer]
          omega
        refine ⟨⟨fun z hz => ?_, ?_⟩, by omega, ht, fun z hz => ?_, fun s => ?_⟩
        · rcases List.mem_append.1 hz with hz | hz
          · exact c1 z (by simp [hz])
          · simp at hz; subst hz; exact ⟨hy.1, hu⟩
        · refine List.pairwise_append.2 ⟨p1, by simp, fun z hz v hv => ?_⟩
          simp at hv; subst hv
          exact p3 z hz y (by simp)
        · rcases List.mem_append.1 hz with hz | hz
          · have := h.ends z (by simp [hz]); omega
          · simp at hz; subst hz; simp only [E.longer]; omega
        · rw [← key s, has_append, has_append, has_one' _ _ hu, has_one' _ _ hy.2]
          show (Has C s ∨ y.s ≤ s ∧ s < y.s + (y.n + (t - next))) ↔ _
          constructor
          · rintro (h1 | h1)
            · exact .inl (.inl h1)
            · by_cases h2 : s < next
              · exact .inl (.inr (by omega))
              · exact .inr (by omega)
          · rintro ((h1 | h1) | h1)
            · exact .inl h1
            · exact .inr (by omega)
            · exact .inr (by omega)
      · rw [grow_no _ _ _ _ hm]
        refine ⟨⟨fun z hz => ?_, ?_⟩, by omega, ht, fun z hz => ?_, fun s => ?_⟩
        · rcases List.mem_append.1 hz with hz | hz
          · exact c1 z hz
          · simp at hz; subst hz; exact ⟨rfl, hok⟩
        · refine List.pairwise_append.2 ⟨c2, by simp, fun z hz v hv => ?_⟩
          simp at hv; subst hv
          have := h.ends z hz
          rcases List.mem_append.1 hz with hz | hz
          · have := p3 z hz y (by simp)
            simp only
            omega
          · simp at hz; subst hz
            simp only
            omega
        · rcases List.mem_append.1 hz with hz | hz
          · have := h.ends z hz; omega
          · simp at hz; subst hz; simp only; omega
        · rw [← key s, has_append, has_one]
          simp only [hok, true_and]
          constructor
          · rintro (h1 | h1)
            · exact .inl h1
            · exact .inr (by omega)
          · rintro (h1 | h1)
            · exact .inl h1
            · exact .inr (by omega)
/-- The rounds of the two inner loops. -/
theorem least_nil (e : Int) : Least [] e 0 false := .inl ⟨rfl, by simp⟩
theorem least_skip {l : List E} {k : Nat} {e next : Int} {found : Bool} (hk : k < l.length) (h : Least (l.take k) e next found) (hs : okB l[k] = false ∨ l[k].s + l[k].n ≤ e) : Least (l.take (k + 1)) e next found := by
  rw [List.take_succ_eq_append_getElem hk]
  generalize l[k] = x at *
  rcases h with ⟨rfl, h⟩ | ⟨rfl, ⟨y, hy, h1⟩, h2⟩
  · refine .inl ⟨rfl, fun z hz hzo => ?_⟩
    rcases List.mem_append.1 hz with hz | hz
    · exact h z hz hzo
    · simp at hz; subst hz
      rcases hs with hs | hs
      · rw [hzo] at hs; cases hs
      · exact hs
  · refine .inr ⟨rfl, ⟨y, List.mem_append_left _ hy, h1⟩, fun z hz hzo hze => ?_⟩
    rcases List.mem_append.1 hz with hz | hz
    · exact h2 z hz hzo hze
    · simp at hz; subst hz
      rcases hs with hs | hs
      · rw [hzo] at hs; cases hs
      · omega
theorem least_take {l : List E} {k : Nat} {e next : Int} {found : Bool} (hk : k < l.length) (h : Least (l.take k) e next found) (h1 : okB l[k] = true) (h2 : e < l[k].s + l[k].n) (h3 : found = false ∨ max l[k].s e < next) : Least (l.take (k + 1)) e (max l[k].s e) true := by
  rw [List.take_succ_eq_append_getElem hk]
  generalize l[k] = x at *
  refine .inr ⟨rfl, ⟨x, by simp, h1, h2, rfl⟩, fun z hz hzo hze => ?_⟩
  rcases List.mem_append.1 hz with hz | hz
  · rcases h with ⟨rfl, h⟩ | ⟨rfl, _, h⟩
    · have := h z hz hzo; omega
    · have := h z hz hzo hze
      rcases h3 with h3 | h3
      · cases h3
      · omega
  · simp at hz; subst hz; exact Int.le_refl _
theorem least_stay {l : List E} {k : Nat} {e next : Int} (hk : k < l.length) (h : Least (l.take k) e next true) (h3 : next ≤ max l[k].s e) : Least (l.take (k + 1)) e next true := by
  rw [List.take_succ_eq_append_getElem hk]
  generalize l[k] = x at *
  rcases h with ⟨h, _⟩ | ⟨_, ⟨y, hy, h1⟩, h2⟩
  · cases h
  · refine .inr ⟨rfl, ⟨y, List.mem_append_left _ hy, h1⟩, fun z hz hzo hze => ?_⟩
    rcases List.mem_append.1 hz with hz | hz
    · exact h2 z hz hzo hze
    · simp at hz; subst hz; exact h3
theorem greatest_nil (next : Int) : Greatest [] next next := ⟨Int.le_refl _, .inl rfl, by simp⟩
theorem greatest_skip {l : List E} {k : Nat} {next t : Int} (hk : k < l.length) (h : Greatest (l.take k) next t) (hs : okB l[k] = false ∨ next < l[k].s ∨ l[k].s + l[k].n ≤ t) : Greatest (l.take (k + 1)) next t := by
  rw [List.take_succ_eq_append_getElem hk]
  generalize l[k] = x at *
  obtain ⟨h1, h2, h3⟩ := h
  refine ⟨h1, h2.imp id fun ⟨y, hy, r⟩ => ⟨y, List.mem_append_left _ hy, r⟩, fun z hz hzo hzn => ?_⟩
  rcases List.mem_append.1 hz with hz | hz
  · exact h3 z hz hzo hzn
  · simp at hz; subst hz
    rcases hs with hs | hs | hs
    · rw [hzo] at hs; cases hs
    · omega
    · exact hs
theorem greatest_take {l : List E} {k : Nat} {next t : Int} (hk : k < l.length) (h : Greatest (l.take k) next t) (h1 : okB l[k] = true) (h2 : l[k].s ≤ next) (h3 : t < l[k].s + l[k].n) : Greatest (l.take (k + 1)) next (l[k].s + l[k].n) := by
  rw [List.take_succ_eq_append_getElem hk]
  generalize l[k] = x at *
  obtain ⟨g1, g2, g3⟩ := h
  refine ⟨by omega, .inr ⟨x, by simp, h1, h2, rfl⟩, fun z hz hzo hzn => ?_⟩
  rcases List.mem_append.1 hz with hz | hz
  · have := g3 z hz hzo hzn; omega
  · simp at hz; subst hz; exact Int.le_refl _
end Go.Proofs.Ytnfaciageadlkaa

namespace Go.Proofs.Ytnfaciageadlkaa
set_option linter.unusedSimpArgs false
set_option linter.unusedVariables false
set_option maxRecDepth 100000

/-- The list is permitted on N slots. -/
def permB (N : Nat) (l : List E) : Bool := l.all fun x => decide (1 ≤ x.n ∧ 0 ≤ x.s ∧ x.s + x.n ≤ N)
theorem permB_iff (N : Nat) (l : List E) : permB N l = true ↔ ∀ x ∈ l, 1 ≤ x.n ∧ 0 ≤ x.s ∧ x.s + x.n ≤ N := by simp [permB]
theorem permB_nil (N : Nat) : permB N [] = true := rfl
theorem permB_snoc (N : Nat) (l : List E) (x : E) : permB N (l ++ [x]) = (permB N l && decide (1 ≤ x.n ∧ 0 ≤ x.s ∧ x.s + x.n ≤ N)) := by simp [permB]
theorem permB_take (N : Nat) (l : List E) (k : Nat) (h : k < l.length) : permB N (l.take (k + 1)) = (permB N (l.take k) && decide (1 ≤ l[k].n ∧ 0 ≤ l[k].s ∧ l[k].s + l[k].n ≤ N)) := by
  rw [List.take_succ_eq_append_getElem h, permB_snoc]
theorem permB_short (N : Nat) (l : List E) (k : Nat) (h : permB N (l.take k) = false) : permB N l = false := by
  cases hl : permB N l
  · rfl
  · have : permB N (l.take k) = true := (permB_iff N _).2 fun x hx => (permB_iff N l).1 hl x (List.mem_of_mem_take hx)
    rw [h] at this
    cases this

/-- k counts from s on, each changed by d. -/
def addR (C : List Int) (s : Nat) (d : Int) : Nat → List Int
  | 0 => C
  | k + 1 => (addR C s d k).set (s + k) ((addR C s d k).getD (s + k) 0 + d)
theorem addR_length (C : List Int) (s : Nat) (d : Int) (k : Nat) : (addR C s d k).length = C.length := by
  induction k with
  | zero => rfl
  | succ k ih => simp [addR, ih]
theorem addR_get (C : List Int) (s : Nat) (d : Int) (k : Nat) (i : Nat) (hi : i < C.length) : (addR C s d k).getD i 0 = C.getD i 0 + if s ≤ i ∧ i < s + k then d else 0 := by
  induction k with
  | zero => simp [addR]; omega
  | succ k ih =>
    simp only [addR]
    by_cases he : s + k = i
    · subst he
      rw [List.getD_eq_getElem?_getD, List.getElem?_set_self (by rw [addR_length]; omega)]
      simp only [Option.getD_some]
      rw [ih, if_neg (by omega), if_pos (by omega)]
      omega
    · rw [List.getD_eq_getElem?_getD, List.getElem?_set_ne he, ← List.getD_eq_getElem?_getD, ih]
      by_cases h1 : s ≤ i ∧ i < s + k
      · rw [if_pos h1, if_pos (by omega)]
      · rw [if_neg h1, if_neg (by omega)]
/-- The counts changed by d for each listed slot. -/
def chgL (C : List Int) (l : List E) (d : Int) : List Int := l.foldl (fun C x => addR C x.s.toNat d x.n.toNat) C
theorem chgL_nil (C : List Int) (d : Int) : chgL C [] d = C := rfl
theorem chgL_take (C : List Int) (l : List E) (d : Int) (k : Nat) (h : k < l.length) : chgL C (l.take (k + 1)) d = addR (chgL C (l.take k) d) l[k].s.toNat d l[k].n.toNat := by
  rw [List.take_succ_eq_append_getElem h]; simp only [chgL, List.foldl_append, List.foldl_cons, List.foldl_nil]
theorem chgL_length (C : List Int) (l : List E) (d : Int) : (chgL C l d).length = C.length := by
  unfold chgL
  induction l generalizing C with
  | nil => rfl
  | cons x r ih => rw [List.foldl_cons, ih, addR_length]
/-- How often a slot is listed. -/
def cnt (l : List E) (i : Nat) : Int := match l with
  | [] => 0
  | x :: r => (if x.s ≤ (i : Int) ∧ (i : Int) < x.s + x.n then 1 else 0) + cnt r i
theorem cnt_bound (l : List E) (i : Nat) : 0 ≤ cnt l i ∧ cnt l i ≤ l.length := by
  induction l with
  | nil => simp [cnt]
  | cons x r ih =>
    simp only [cnt, List.length_cons]
    split <;> omega
theorem cnt_pos (l : List E) (i : Nat) : 0 < cnt l i ↔ ∃ x ∈ l, x.s ≤ (i : Int) ∧ (i : Int) < x.s + x.n := by
  induction l with
  | nil => simp [cnt]
  | cons x r ih =>
    have hb := (cnt_bound r i).1
    simp only [cnt, List.mem_cons, exists_eq_or_imp]
    rw [← ih]
    split
    · rename_i h; exact ⟨fun _ => .inl h, fun _ => by omega⟩
    · rename_i h; exact ⟨fun h' => .inr (by omega), fun h' => by rcases h' with h' | h'; exact absurd h' h; omega⟩
theorem chgL_get (l : List E) (d : Int) : ∀ (C : List Int), permB C.length l = true → ∀ i, i < C.length → (chgL C l d).getD i 0 = C.getD i 0 + d * cnt l i := by
  induction l with
  | nil => intro C _ i _; simp [chgL, cnt]
  | cons x r ih =>
    intro C hp i hi
    have hp' := (permB_iff _ _).1 hp
    obtain ⟨h1, h2, h3⟩ := hp' x (by simp)
    have hr : permB (addR C x.s.toNat d x.n.toNat).length r = true := by
      rw [addR_length]
      exact (permB_iff _ _).2 fun y hy => hp' y (by simp [hy])
    have := ih (addR C x.s.toNat d x.n.toNat) hr i (by rw [addR_length]; exact hi)
    simp only [chgL, List.foldl_cons] at this ⊢
    rw [this, addR_get _ _ _ _ _ hi]
    simp only [cnt]
    rw [Int.mul_add, ← Int.add_assoc]
    congr 1
    congr 1
    by_cases hc : x.s.toNat ≤ i ∧ i < x.s.toNat + x.n.toNat
    · rw [if_pos hc, if_pos (by omega)]; omega
    · rw [if_neg hc, if_neg (by omega)]; omega

/-- Counts are told by their values. -/
theorem counts_ext {A B : List Int} (hl : A.length = B.length) (h : ∀ i, i < A.length → A.getD i 0 = B.getD i 0) : A = B := by
  apply List.ext_getElem hl
  intro i h1 h2
  have := h i h1
  simpa [List.getD_eq_getElem?_getD, List.getElem?_eq_getElem h1, List.getElem?_eq_getElem h2] using this
/-- All counts lie in a range. -/
def inR (lo hi : Int) (C : List Int) : Prop := ∀ x ∈ C, lo ≤ x ∧ x ≤ hi
theorem inR_get {lo hi : Int} {C : List Int} : inR lo hi C ↔ ∀ i, i < C.length → lo ≤ C.getD i 0 ∧ C.getD i 0 ≤ hi := by
  constructor
  · intro h i hi
    rw [List.getD_eq_getElem?_getD, List.getElem?_eq_getElem hi]
    exact h _ (List.getElem_mem hi)
  · intro h x hx
    obtain ⟨i, hi, rfl⟩ := List.mem_iff_getElem.1 hx
    have := h i hi
    rwa [List.getD_eq_getElem?_getD, List.getElem?_eq_getElem hi] at this
theorem inR_mono {lo hi lo' hi' : Int} {C : List Int} (h : inR lo hi C) (h1 : lo' ≤ lo) (h2 : hi ≤ hi') : inR lo' hi' C := fun x hx => ⟨by have := (h x hx).1; omega, by have := (h x hx).2; omega⟩
theorem inR_zero (n : Nat) : inR 0 0 (List.replicate n 0) := fun x hx => by
  obtain ⟨_, rfl⟩ := List.mem_replicate.1 hx
  simp
theorem addR_range (C : List Int) (s : Nat) (d : Int) (k : Nat) (lo hi : Int) (h : inR lo hi C) : inR (lo - 1) (hi + 1) (addR C s d k) ∨ (d < -1 ∨ 1 < d) := by
  by_cases hd : -1 ≤ d ∧ d ≤ 1
  · refine .inl (inR_get.2 fun i hi => ?_)
    rw [addR_length] at hi
    rw [addR_get _ _ _ _ _ hi]
    have := inR_get.1 h i hi
    split <;> omega
  · exact .inr (by omega)
theorem chgL_range (l : List E) (d : Int) (hd : -1 ≤ d ∧ d ≤ 1) : ∀ (C : List Int) (lo hi : Int), inR lo hi C → inR (lo - l.length) (hi + l.length) (chgL C l d) := by
  induction l with
  | nil => intro C lo hi h; simpa [chgL] using h
  | cons x r ih =>
    intro C lo hi h
    have h1 := (addR_range C x.s.toNat d x.n.toNat lo hi h).resolve_right (by omega)
    have := ih _ _ _ h1
    simp only [chgL, List.foldl_cons, List.length_cons] at this ⊢
    exact inR_mono this (by push_cast; omega) (by push_cast; omega)

/-! ### Sums -/
def sumC (C : List Int) : Int := C.sum
def usedC (C : List Int) : Int := (C.map fun x => min x 1).sum
theorem sumC_take (C : List Int) (k : Nat) (h : k < C.length) : sumC (C.take (k + 1)) = sumC (C.take k) + C[k] := by
  rw [List.take_succ_eq_append_getElem h]; simp only [sumC, List.sum_append, List.sum_cons, List.sum_nil, Int.add_zero]
theorem usedC_take (C : List Int) (k : Nat) (h : k < C.length) : usedC (C.take (k + 1)) = usedC (C.take k) + min C[k] 1 := by
  rw [List.take_succ_eq_append_getElem h]; simp only [usedC, List.map_append, List.map_cons, List.map_nil, List.sum_append, List.sum_cons, List.sum_nil, Int.add_zero]
theorem sum_bound (C : List Int) (lo hi : Int) (h : inR lo hi C) : lo * C.length ≤ C.sum ∧ C.sum ≤ hi * C.length := by
  induction C with
  | nil => simp
  | cons x r ih =>
    have h1 := h x (by simp)
    have h2 := ih fun y hy => h y (by simp [hy])
    simp only [List.sum_cons, List.length_cons]
    rw [show ((r.length + 1 : Nat) : Int) = r.length + 1 by omega, Int.mul_add, Int.mul_add]
    omega
theorem take_range {lo hi : Int} {C : List Int} (h : inR lo hi C) (k : Nat) : inR lo hi (C.take k) := fun x hx => h x (List.mem_of_mem_take hx)
theorem used_range {hi : Int} {C : List Int} (h : inR 0 hi C) : inR 0 1 (C.map fun x => min x 1) := fun y hy => by
  obtain ⟨x, hx, rfl⟩ := List.mem_map.1 hy
  have := (h x hx).1
  omega
theorem sumC_bound {C : List Int} {hi : Int} (h : inR 0 hi C) (h0 : 0 ≤ hi) : 0 ≤ sumC C ∧ sumC C ≤ hi * C.length := by
  have := sum_bound C 0 hi h
  simp only [Int.zero_mul] at this
  exact this
theorem usedC_bound {C : List Int} {hi : Int} (h : inR 0 hi C) : 0 ≤ usedC C ∧ usedC C ≤ C.length := by
  have := sum_bound _ 0 1 (used_range h)
  simp only [Int.zero_mul, List.length_map, Int.one_mul] at this
  exact this

/-! ### Single slots -/
def single (i : Nat) : E := ⟨0, 1, i⟩
/-- The slots below k that a test picks, as single extents. -/
def picks (f : Nat → Bool) (k : Nat) : List E := ((List.range k).filter f).map single
theorem picks_zero (f : Nat → Bool) : picks f 0 = [] := rfl
theorem picks_yes (f : Nat → Bool) (k : Nat) (h : f k = true) : picks f (k + 1) = picks f k ++ [single k] := by simp [picks, List.range_succ, h]
theorem picks_no (f : Nat → Bool) (k : Nat) (h : f k = false) : picks f (k + 1) = picks f k := by simp [picks, List.range_succ, h]
theorem picks_length (f : Nat → Bool) (k : Nat) : (picks f k).length ≤ k := by
  unfold picks
  rw [List.length_map]
  exact Nat.le_trans (List.length_filter_le _ _) (by simp)
theorem picks_congr (f g : Nat → Bool) (k : Nat) (h : ∀ i, i < k → f i = g i) : picks f k = picks g k := by
  unfold picks
  rw [List.filter_congr fun i hi => h i (List.mem_range.1 hi)]
theorem picks_wf (f : Nat → Bool) (k : Nat) (hk : k ≤ 65536) : wfL (picks f k) := by
  intro x hx
  obtain ⟨i, hi, rfl⟩ := List.mem_map.1 hx
  have := List.mem_range.1 (List.mem_filter.1 hi).1
  exact ⟨by simp [single], by simp [single], by simp only [single]; omega⟩
theorem single_ok (i : Nat) : okB (single i) = decide (i < 65536) := by
  rw [Bool.eq_iff_iff, okB_iff]
  simp only [single, decide_eq_true_eq]
  omega
theorem has_picks (f : Nat → Bool) (k : Nat) (hk : k ≤ 65536) (s : Int) : Has (picks f k) s ↔ 0 ≤ s ∧ s < k ∧ f s.toNat = true := by
  constructor
  · rintro ⟨x, hx, _, h1, h2⟩
    obtain ⟨i, hi, rfl⟩ := List.mem_map.1 hx
    obtain ⟨h3, h4⟩ := List.mem_filter.1 hi
    have h3 := List.mem_range.1 h3
    simp only [single] at h1 h2
    obtain rfl : s = i := by omega
    exact ⟨by omega, by omega, by simpa using h4⟩
  · rintro ⟨h1, h2, h3⟩
    refine ⟨single s.toNat, List.mem_map.2 ⟨_, List.mem_filter.2 ⟨List.mem_range.2 (by omega), h3⟩, rfl⟩, ?_, ?_, ?_⟩
    · rw [single_ok]; simp; omega
    · simp only [single]; omega
    · simp only [single]; omega
def zeroB (C : List Int) (i : Nat) : Bool := decide (C.getD i 0 = 0)
/-- The runs of the slots whose count is 0. -/
def zeroL (C : List Int) : List E := runsL (picks (zeroB C) C.length)

/-- The listed slots whose count in D is 0, one extent each: what one extent yields of its first k slots. -/
def freedX (D : List Int) (s : Nat) (k : Nat) : List E := ((List.range k).filter fun j => zeroB D (s + j)).map fun j => single (s + j)
theorem freedX_zero (D : List Int) (s : Nat) : freedX D s 0 = [] := rfl
theorem freedX_yes (D : List Int) (s k : Nat) (h : zeroB D (s + k) = true) : freedX D s (k + 1) = freedX D s k ++ [single (s + k)] := by simp [freedX, List.range_succ, h]
theorem freedX_no (D : List Int) (s k : Nat) (h : zeroB D (s + k) = false) : freedX D s (k + 1) = freedX D s k := by simp [freedX, List.range_succ, h]
theorem freedX_length (D : List Int) (s k : Nat) : (freedX D s k).length ≤ k := by
  unfold freedX
  rw [List.length_map]
  exact Nat.le_trans (List.length_filter_le _ _) (by simp)
def freedL (D : List Int) (l : List E) : List E := l.flatMap fun x => freedX D x.s.toNat x.n.toNat
theorem freedL_take (D : List Int) (l : List E) (k : Nat) (h : k < l.length) : freedL D (l.take (k + 1)) = freedL D (l.take k) ++ freedX D l[k].s.toNat l[k].n.toNat := by
  rw [List.take_succ_eq_append_getElem h]; simp only [freedL, List.flatMap_append, List.flatMap_cons, List.flatMap_nil, List.append_nil]
theorem freedL_length (D : List Int) (N : Nat) (l : List E) (h : permB N l = true) : (freedL D l).length ≤ N * l.length := by
  induction l with
  | nil => simp [freedL]
  | cons x r ih =>
    have h' := (permB_iff _ _).1 h
    have h1 := h' x (by simp)
    have h2 := ih ((permB_iff _ _).2 fun y hy => h' y (by simp [hy]))
    have h3 := freedX_length D x.s.toNat x.n.toNat
    simp only [freedL, List.flatMap_cons, List.length_append, List.length_cons] at h2 ⊢
    rw [Nat.mul_add]
    omega
theorem mem_freed (D : List Int) (l : List E) (N : Nat) (h : permB N l = true) (e : E) : e ∈ freedL D l ↔ ∃ i, e = single i ∧ zeroB D i = true ∧ 0 < cnt l i ∧ i < N := by
  have h' := (permB_iff _ _).1 h
  unfold freedL
  rw [List.mem_flatMap]
  constructor
  · rintro ⟨x, hx, he⟩
    obtain ⟨j, hj, rfl⟩ := List.mem_map.1 he
    obtain ⟨h1, h2⟩ := List.mem_filter.1 hj
    have h1 := List.mem_range.1 h1
    have h3 := h' x hx
    exact ⟨_, rfl, h2, (cnt_pos _ _).2 ⟨x, hx, by omega, by omega⟩, by omega⟩
  · rintro ⟨i, rfl, h1, h2, h3⟩
    obtain ⟨x, hx, h4, h5⟩ := (cnt_pos _ _).1 h2
    have h6 := h' x hx
    refine ⟨x, hx, List.mem_map.2 ⟨i - x.s.toNat, List.mem_filter.2 ⟨List.mem_range.2 (by omega), ?_⟩, ?_⟩⟩
    · rw [show x.s.toNat + (i - x.s.toNat) = i by omega]; exact h1
    · rw [show x.s.toNat + (i - x.s.toNat) = i by omega]
theorem freed_wf (D : List Int) (l : List E) (N : Nat) (hN : N ≤ 65536) (h : permB N l = true) : wfL (freedL D l) := by
  intro x hx
  obtain ⟨i, rfl, _, _, hi⟩ := (mem_freed D l N h x).1 hx
  exact ⟨by simp [single], by simp [single], by simp only [single]; omega⟩
/-- What Drop frees: the specification's mark. -/
def freeB (C D : List Int) (i : Nat) : Bool := decide (D.getD i 0 = 0) && decide (0 < C.getD i 0)
theorem freed_is (C : List Int) (l : List E) (hN : C.length ≤ 65536) (h : permB C.length l = true) (hC : ∀ i, i < C.length → 0 ≤ C.getD i 0) :
    runsL (freedL (chgL C l (-1)) l) = runsL (picks (freeB C (chgL C l (-1))) C.length) := by
  refine runs_mem fun e => ?_
  rw [mem_freed _ _ _ h]
  unfold picks
  rw [List.mem_map]
  constructor
  · rintro ⟨i, rfl, h1, h2, h3⟩
    refine ⟨i, List.mem_filter.2 ⟨List.mem_range.2 h3, ?_⟩, rfl⟩
    have hg := chgL_get l (-1) C h i h3
    simp only [zeroB, decide_eq_true_eq] at h1
    simp only [freeB, Bool.and_eq_true, decide_eq_true_eq]
    exact ⟨h1, by omega⟩
  · rintro ⟨i, hi, rfl⟩
    obtain ⟨h3, h4⟩ := List.mem_filter.1 hi
    have h3 := List.mem_range.1 h3
    have hg := chgL_get l (-1) C h i h3
    simp only [freeB, Bool.and_eq_true, decide_eq_true_eq] at h4
    exact ⟨i, rfl, decide_eq_true h4.1, by omega, h3⟩
end Go.Proofs.Ytnfaciageadlkaa

namespace Go.Proofs.Ytnfaciageadlkaa
set_option linter.unusedSimpArgs false
set_option linter.unusedVariables false
set_option maxRecDepth 100000

/-- How many numbers below n a test picks. -/
def area (f : Nat → Bool) : Nat → Nat
  | 0 => 0
  | n + 1 => area f n + if f n = true then 1 else 0
theorem area_le (f : Nat → Bool) (n : Nat) : area f n ≤ n := by
  induction n with
  | zero => simp [area]
  | succ n ih => simp only [area]; split <;> omega
theorem area_congr (f g : Nat → Bool) (n : Nat) (h : ∀ i, i < n → f i = g i) : area f n = area g n := by
  induction n with
  | zero => rfl
  | succ n ih =>
    simp only [area]
    rw [ih fun i hi => h i (by omega), h n (by omega)]
theorem area_span (a b n : Nat) (hab : a ≤ b) : area (fun i => decide (a ≤ i) && decide (i < b)) n = min b n - min a n := by
  induction n with
  | zero => simp [area]
  | succ n ih =>
    simp only [area]
    rw [ih]
    simp only [Bool.and_eq_true, decide_eq_true_eq]
    split <;> omega
theorem area_or (f g : Nat → Bool) (n : Nat) (h : ∀ i, i < n → f i = true → g i = true → False) : area (fun i => f i || g i) n = area f n + area g n := by
  induction n with
  | zero => rfl
  | succ n ih =>
    simp only [area]
    rw [ih fun i hi => h i (by omega)]
    have := h n (by omega)
    rcases Bool.eq_false_or_eq_true (f n) with hf | hf <;> rcases Bool.eq_false_or_eq_true (g n) with hg | hg <;> simp_all <;> omega
theorem area_false (f : Nat → Bool) (n : Nat) (h : ∀ i, i < n → f i = false) : area f n = 0 := by
  induction n with
  | zero => rfl
  | succ n ih =>
    simp only [area]
    rw [ih fun i hi => h i (by omega), h n (by omega)]
    rfl
theorem area_cut (f : Nat → Bool) (n m : Nat) (hn : n ≤ m) (h : ∀ i, n ≤ i → i < m → f i = false) : area f m = area f n := by
  induction m with
  | zero => obtain rfl : n = 0 := by omega
            rfl
  | succ m ih =>
    by_cases he : n = m + 1
    · subst he; rfl
    · simp only [area]
      rw [ih (by omega) fun i h1 h2 => h i h1 (by omega), h m (by omega) (by omega)]
      simp
theorem area_mono (f g : Nat → Bool) (n : Nat) (h : ∀ i, i < n → f i = true → g i = true) : area f n ≤ area g n := by
  induction n with
  | zero => exact Nat.le_refl _
  | succ n ih =>
    simp only [area]
    have := ih fun i hi => h i (by omega)
    have := h n (by omega)
    rcases Bool.eq_false_or_eq_true (f n) with hf | hf <;> rcases Bool.eq_false_or_eq_true (g n) with hg | hg <;> simp_all <;> omega
theorem area_split (f g : Nat → Bool) (n : Nat) : area f n = area (fun i => f i && g i) n + area (fun i => f i && !g i) n := by
  induction n with
  | zero => rfl
  | succ n ih =>
    simp only [area]
    rw [ih]
    rcases Bool.eq_false_or_eq_true (f n) with hf | hf <;> rcases Bool.eq_false_or_eq_true (g n) with hg | hg <;> simp [hf, hg] <;> omega
theorem area_or_and (f g : Nat → Bool) (n : Nat) : area (fun i => f i || g i) n + area (fun i => f i && g i) n = area f n + area g n := by
  induction n with
  | zero => rfl
  | succ n ih =>
    simp only [area]
    rcases Bool.eq_false_or_eq_true (f n) with hf | hf <;> rcases Bool.eq_false_or_eq_true (g n) with hg | hg <;> simp [hf, hg] <;> omega
theorem area_not (f : Nat → Bool) (n : Nat) : area f n + area (fun i => !f i) n = n := by
  induction n with
  | zero => rfl
  | succ n ih =>
    simp only [area]
    rcases Bool.eq_false_or_eq_true (f n) with hf | hf <;> simp [hf] <;> omega
theorem area_zero_iff (f : Nat → Bool) (n : Nat) : area f n = 0 ↔ ∀ i, i < n → f i = false := by
  constructor
  · induction n with
    | zero => intro _ i hi; omega
    | succ n ih =>
      intro h i hi
      simp only [area] at h
      have h1 := ih (by omega)
      by_cases he : i = n
      · subst he
        cases hf : f i
        · rfl
        · rw [if_pos hf] at h; omega
      · exact h1 i (by omega)
  · exact area_false f n
/-- The test holds on the extent's slots. -/
def inX (x : E) (i : Nat) : Bool := decide (x.s ≤ (i : Int)) && decide ((i : Int) < x.s + x.n)
theorem inX_iff (x : E) (i : Nat) : inX x i = true ↔ x.s ≤ (i : Int) ∧ (i : Int) < x.s + x.n := by simp [inX]
def hasB (R : List E) (i : Nat) : Bool := R.any fun x => okB x && inX x i
theorem hasB_iff (R : List E) (i : Nat) : hasB R i = true ↔ Has R (i : Int) := by
  unfold hasB Has
  rw [List.any_eq_true]
  constructor
  · rintro ⟨x, hx, h⟩
    simp only [Bool.and_eq_true, inX_iff] at h
    exact ⟨x, hx, h.1, h.2.1, h.2.2⟩
  · rintro ⟨x, hx, h1, h2, h3⟩
    exact ⟨x, hx, by simp only [Bool.and_eq_true, inX_iff]; exact ⟨h1, h2, h3⟩⟩
theorem area_inX (x : E) (n : Nat) (h0 : 0 ≤ x.s) (h1 : 0 ≤ x.n) (h2 : x.s + x.n ≤ n) : area (inX x) n = x.n.toNat := by
  rw [area_congr (inX x) (fun i => decide (x.s.toNat ≤ i) && decide (i < x.s.toNat + x.n.toNat)) n fun i _ => by
    rw [Bool.eq_iff_iff, inX_iff]; simp only [Bool.and_eq_true, decide_eq_true_eq]; omega]
  rw [area_span _ _ _ (by omega)]
  omega
theorem has_lt {R : List E} {s : Int} (h : Has R s) : 0 ≤ s ∧ s < 65536 := by
  obtain ⟨x, _, h1, h2, h3⟩ := h
  have := (okB_iff x).1 h1
  omega
theorem hasB_far (R : List E) (i : Nat) (h : 65536 ≤ i) : hasB R i = false := by
  cases hb : hasB R i
  · rfl
  · have := has_lt ((hasB_iff _ _).1 hb)
    omega
theorem lenL_cons (x : E) (r : List E) : lenL (x :: r) = x.n + lenL r := by simp [lenL]
/-- The size of runs is the number of their slots. -/
theorem lenL_canon (R : List E) : Canon R → lenL R = area (hasB R) 65536 := by
  induction R with
  | nil =>
    intro _
    rw [area_false _ _ fun i _ => by simp [hasB]]
    rfl
  | cons x r ih =>
    rintro ⟨h1, h2⟩
    rw [List.pairwise_cons] at h2
    have h3 := ih ⟨fun y hy => h1 y (by simp [hy]), h2.2⟩
    have hx := (h1 x (by simp)).2
    obtain ⟨e1, e2, e3, e4, e5⟩ := (okB_iff x).1 hx
    rw [lenL_cons, h3]
    rw [area_congr (hasB (x :: r)) (fun i => inX x i || hasB r i) _ fun i _ => by simp [hasB, hx]]
    rw [area_or _ _ _ (fun i _ ha hb => ?_), area_inX x _ e3 (by omega) (by omega)]
    · omega
    · obtain ⟨y, hy, _, h5, _⟩ := (hasB_iff _ _).1 hb
      have := h2.1 y hy
      have := (inX_iff _ _).1 ha
      omega
theorem hasB_picks (f : Nat → Bool) (k : Nat) (hk : k ≤ 65536) (i : Nat) : hasB (picks f k) i = (decide (i < k) && f i) := by
  rw [Bool.eq_iff_iff, hasB_iff, has_picks f k hk]
  simp only [Bool.and_eq_true, decide_eq_true_eq, Int.toNat_natCast]
  exact ⟨fun h => ⟨by omega, h.2.2⟩, fun h => ⟨by omega, by omega, h.2⟩⟩
theorem hasB_runs (l : List E) (i : Nat) : hasB (runsL l) i = hasB l i := by
  rw [Bool.eq_iff_iff, hasB_iff, hasB_iff]
  exact (runs_facts l).2 i
theorem lenL_picks (f : Nat → Bool) (k : Nat) (hk : k ≤ 65536) : lenL (runsL (picks f k)) = area f k := by
  rw [lenL_canon _ (runs_facts _).1]
  rw [area_congr _ (fun i => decide (i < k) && f i) _ fun i _ => by rw [hasB_runs, hasB_picks f k hk]]
  rw [area_cut _ k 65536 hk fun i h1 _ => by simp; omega]
  rw [area_congr _ f k fun i hi => by simp [hi]]
/-- Runs told by their slots. -/
theorem runs_ext {A B : List E} (hA : Canon A) (hB : Canon B) (h : ∀ i, i < 65536 → hasB A i = hasB B i) : A = B := by
  refine canon_unique A B hA hB fun s => ?_
  constructor
  · intro hs
    have := has_lt hs
    obtain ⟨i, rfl⟩ : ∃ i : Nat, s = i := ⟨s.toNat, by omega⟩
    rw [← hasB_iff, ← h i (by omega), hasB_iff]; exact hs
  · intro hs
    have := has_lt hs
    obtain ⟨i, rfl⟩ : ∃ i : Nat, s = i := ⟨s.toNat, by omega⟩
    rw [← hasB_iff, h i (by omega), hasB_iff]; exact hs

/-! ### Used, free and total -/
theorem used_take (C : List Int) (hi : Int) (h : inR 0 hi C) (k : Nat) : k ≤ C.length → usedC (C.take k) + area (zeroB C) k = k := by
  induction k with
  | zero => intro _; simp [usedC, area]
  | succ k ih =>
    intro hk
    have hlt : k < C.length := by omega
    rw [usedC_take C k hlt]
    have h1 := ih (by omega)
    have h2 := (h C[k] (List.getElem_mem hlt)).1
    simp only [area, zeroB, decide_eq_true_eq]
    rw [List.getD_eq_getElem?_getD, List.getElem?_eq_getElem hlt]
    simp only [Option.getD_some]
    split <;> omega
theorem used_zero (C : List Int) (hi : Int) (h : inR 0 hi C) : usedC C + area (zeroB C) C.length = C.length := by
  have := used_take C hi h C.length (Nat.le_refl _)
  rwa [List.take_length] at this
theorem lenL_zero (C : List Int) (hN : C.length ≤ 65536) : lenL (zeroL C) = area (zeroB C) C.length := lenL_picks _ _ hN
theorem chg_back (C : List Int) (l : List E) (h : permB C.length l = true) : chgL (chgL C l 1) l (-1) = C := by
  refine counts_ext (by rw [chgL_length, chgL_length]) fun i hi => ?_
  rw [chgL_length, chgL_length] at hi
  rw [chgL_get l (-1) _ (by rw [chgL_length]; exact h) i (by rw [chgL_length]; exact hi), chgL_get l 1 _ h i hi]
  omega
theorem chg_up {C : List Int} {l : List E} {hi : Int} (h : permB C.length l = true) (hC : inR 0 hi C) : inR 0 (hi + l.length) (chgL C l 1) := by
  refine inR_get.2 fun i hlt => ?_
  rw [chgL_length] at hlt
  rw [chgL_get l 1 _ h i hlt]
  have := inR_get.1 hC i hlt
  have := cnt_bound l i
  omega
theorem chg_down {C : List Int} {l : List E} {hi : Int} (h : permB C.length l = true) (hC : inR 0 hi C) (h0 : ∀ x ∈ chgL C l (-1), 0 ≤ x) : inR 0 hi (chgL C l (-1)) := by
  refine inR_get.2 fun i hlt => ?_
  have h1 : 0 ≤ (chgL C l (-1)).getD i 0 := by
    rw [List.getD_eq_getElem?_getD, List.getElem?_eq_getElem hlt]
    exact h0 _ (List.getElem_mem hlt)
  refine ⟨h1, ?_⟩
  rw [chgL_length] at hlt
  rw [chgL_get l (-1) _ h i hlt]
  have := inR_get.1 hC i hlt
  have := cnt_bound l i
  omega
theorem sum_addR (C : List Int) (s : Nat) (d : Int) (k : Nat) (h : s + k ≤ C.length) : (addR C s d k).sum = C.sum + d * k := by
  induction k with
  | zero => simp [addR]
  | succ k ih =>
    have hl : s + k < (addR C s d k).length := by rw [addR_length]; omega
    have h1 : ∀ (L : List Int) (j : Nat) (v : Int), j < L.length → (L.set j v).sum = L.sum - L.getD j 0 + v := by
      intro L
      induction L with
      | nil => intro j v hj; simp at hj
      | cons a r ih =>
        intro j v hj
        cases j with
        | zero => simp; omega
        | succ j =>
          have := ih j v (by simpa using hj)
          simp only [List.set_cons_succ, List.sum_cons, List.getD_cons_succ]
          omega
    simp only [addR]
    rw [h1 _ _ _ hl, ih (by omega)]
    rw [show ((k + 1 : Nat) : Int) = k + 1 by omega, Int.mul_add]
    omega
theorem sum_chg (l : List E) (d : Int) : ∀ (C : List Int), permB C.length l = true → sumC (chgL C l d) = sumC C + d * lenL l := by
  induction l with
  | nil => intro C _; simp [chgL, lenL]
  | cons x r ih =>
    intro C hp
    have hp' := (permB_iff _ _).1 hp
    obtain ⟨h1, h2, h3⟩ := hp' x (by simp)
    have := ih (addR C x.s.toNat d x.n.toNat) (by rw [addR_length]; exact (permB_iff _ _).2 fun y hy => hp' y (by simp [hy]))
    simp only [chgL, List.foldl_cons] at this ⊢
    rw [this, lenL_cons]
    unfold sumC
    rw [sum_addR _ _ _ _ (by omega), Int.mul_add, Int.toNat_of_nonneg (by omega)]
    omega
/-- The slots that become used. -/
theorem fresh_is (C : List Int) (l : List E) (hN : C.length ≤ 65536) (h : permB C.length l = true) (hC : ∀ i, i < C.length → 0 ≤ C.getD i 0) :
    runsL (freedL C l) = runsL (picks (fun i => decide (C.getD i 0 = 0) && decide (0 < (chgL C l 1).getD i 0)) C.length) := by
  have h1 := freed_is (chgL C l 1) l (by rw [chgL_length]; exact hN) (by rw [chgL_length]; exact h) (fun i hi => by
    rw [chgL_length] at hi
    rw [chgL_get l 1 _ h i hi]
    have := hC i hi
    have := cnt_bound l i
    omega)
  rw [chg_back C l h, chgL_length] at h1
  exact h1
end Go.Proofs.Ytnfaciageadlkaa

namespace Go.Proofs.Ytnfaciageadlkaa
set_option linter.unusedSimpArgs false
set_option linter.unusedVariables false
set_option maxRecDepth 100000

/-- The slot is listed, whatever the list. -/
def listX (x : E) (i : Nat) : Bool := decide (1 ≤ x.n) && inX x i
def listB (l : List E) (i : Nat) : Bool := l.any fun x => listX x i
theorem listB_take (l : List E) (k : Nat) (h : k < l.length) (i : Nat) : listB (l.take (k + 1)) i = (listB (l.take k) i || listX l[k] i) := by
  rw [List.take_succ_eq_append_getElem h]; simp only [listB, List.any_append, List.any_cons, List.any_nil, Bool.or_false]
def oneB (C : List Int) (i : Nat) : Bool := decide (C.getD i 0 = 1)
/-- How many listed slots have the count 1. -/
def singleC (C : List Int) (l : List E) : Int := area (fun i => listB l i && oneB C i) C.length
def mk (f : Nat → Bool) (n : Nat) : List Bool := (List.range n).map f
theorem mk_length (f : Nat → Bool) (n : Nat) : (mk f n).length = n := by simp [mk]
theorem mk_false (n : Nat) : mk (fun _ => false) n = List.replicate n false := by
  apply List.ext_getElem
  · simp [mk]
  · intro i h1 h2
    simp [mk]
theorem mk_get (f : Nat → Bool) (n i : Nat) (h : i < n) : (mk f n).getD i false = f i := by
  rw [List.getD_eq_getElem?_getD]
  simp [mk, h]
theorem mk_congr (f g : Nat → Bool) (n : Nat) (h : ∀ i, i < n → f i = g i) : mk f n = mk g n := by
  unfold mk
  exact List.map_congr_left fun i hi => h i (List.mem_range.1 hi)
theorem mk_set (f : Nat → Bool) (p n : Nat) (b : Bool) : (mk f n).set p b = mk (fun i => if i = p then b else f i) n := by
  apply List.ext_getElem
  · simp [mk]
  · intro i h1 h2
    simp only [mk, List.getElem_set, List.getElem_map, List.getElem_range]
    by_cases h : p = i
    · subst h; simp
    · rw [if_neg h, if_neg (fun e => h e.symm)]
theorem area_add (f g : Nat → Bool) (p n : Nat) (hp : p < n) (h : ∀ i, i < n → i ≠ p → f i = g i) (h1 : f p = false) (h2 : g p = true) : area g n = area f n + 1 := by
  induction n with
  | zero => omega
  | succ n ih =>
    simp only [area]
    by_cases he : p = n
    · subst he
      rw [area_congr g f p fun i hi => (h i (by omega) (by omega)).symm, h1, h2]
      simp
    · rw [ih (by omega) fun i hi hne => h i (by omega) hne, h n (by omega) (fun e => he e.symm)]
      omega
/-- What is seen behind some rounds: the extents before, and a part of the next one. -/
def seenB (L : Nat → Bool) (s p : Nat) (i : Nat) : Bool := L i || (decide (s ≤ i) && decide (i < p))
theorem seenB_zero (L : Nat → Bool) (s p : Nat) (h : p ≤ s) (i : Nat) : seenB L s p i = L i := by
  unfold seenB
  have : (decide (s ≤ i) && decide (i < p)) = false := by simp; omega
  rw [this, Bool.or_false]
theorem seenB_at (L : Nat → Bool) (s p i : Nat) (h : p ≤ i) : seenB L s p i = L i := by
  unfold seenB
  have : (decide (s ≤ i) && decide (i < p)) = false := by simp; omega
  rw [this, Bool.or_false]
theorem seen_step (L : Nat → Bool) (s p n : Nat) (h : s ≤ p) : (mk (seenB L s p) n).set p true = mk (seenB L s (p + 1)) n := by
  rw [mk_set]
  refine mk_congr _ _ _ fun i _ => ?_
  unfold seenB
  by_cases hi : i = p
  · subst hi
    simp [h]
  · rw [if_neg hi]
    congr 1
    rw [Bool.eq_iff_iff]
    simp only [Bool.and_eq_true, decide_eq_true_eq]
    omega
theorem seen_same (L : Nat → Bool) (C : List Int) (s p n : Nat) (hs : s ≤ p) (h : (!seenB L s p p && oneB C p) = false) : area (fun i => seenB L s (p + 1) i && oneB C i) n = area (fun i => seenB L s p i && oneB C i) n := by
  refine area_congr _ _ _ fun i _ => ?_
  by_cases hi : i = p
  · subst hi
    cases ho : oneB C i
    · simp
    · rw [ho] at h
      have h1 : seenB L s i i = true := by simpa using h
      rw [h1]
      have h2 : seenB L s (i + 1) i = true := by unfold seenB; simp [hs]
      rw [h2]
  · congr 1
    unfold seenB
    congr 1
    rw [Bool.eq_iff_iff]
    simp only [Bool.and_eq_true, decide_eq_true_eq]
    omega
theorem seen_more (L : Nat → Bool) (C : List Int) (s p n : Nat) (hs : s ≤ p) (hp : p < n) (h1 : seenB L s p p = false) (h2 : oneB C p = true) : area (fun i => seenB L s (p + 1) i && oneB C i) n = area (fun i => seenB L s p i && oneB C i) n + 1 := by
  refine area_add _ _ p n hp (fun i _ hi => ?_) ?_ ?_
  · congr 1
    unfold seenB
    congr 1
    rw [Bool.eq_iff_iff]
    simp only [Bool.and_eq_true, decide_eq_true_eq]
    omega
  · show (seenB L s p p && oneB C p) = false
    rw [h1]
    rfl
  · show (seenB L s (p + 1) p && oneB C p) = true
    rw [h2]
    unfold seenB
    simp [hs]
/-- One extent seen whole. -/
theorem seen_all (L : Nat → Bool) (x : E) (s p n : Nat) (T : Int) (hs : (s : Int) = max x.s 0) (hT : T = if 1 ≤ x.n then min (n : Int) (x.s + x.n) else 0) (h1 : s ≤ p) (h2 : T ≤ p) (h3 : (p : Int) ≤ T ∨ p = s) (i : Nat) (hi : i < n) : seenB L s p i = (L i || listX x i) := by
  unfold seenB listX inX
  congr 1
  rw [Bool.eq_iff_iff]
  simp only [Bool.and_eq_true, decide_eq_true_eq]
  by_cases h : 1 ≤ x.n
  · rw [if_pos h] at hT
    omega
  · rw [if_neg h] at hT
    omega
end Go.Proofs.Ytnfaciageadlkaa

namespace Go.Proofs.Ytnfaciageadlkaa
set_option linter.unusedSimpArgs false
set_option linter.unusedVariables false
set_option maxRecDepth 100000

/-- A tree of extents. -/
inductive Tr where
  | nil : Tr
  | node (l : Tr) (x : E) (r : Tr) : Tr
def Tr.toL : Tr → List E
  | .nil => []
  | .node l x r => l.toL ++ x :: r.toL
def Tr.deep : Tr → Nat
  | .nil => 0
  | .node l _ r => 1 + max l.deep r.deep
def Tr.size (t : Tr) : Nat := t.toL.length
theorem Tr.deep_le (t : Tr) : t.deep ≤ t.size := by
  induction t with
  | nil => simp [Tr.deep, Tr.size, Tr.toL]
  | node l x r hl hr =>
    simp only [Tr.deep, Tr.size, Tr.toL, List.length_append, List.length_cons] at hl hr ⊢
    omega
theorem Tr.size_node (l r : Tr) (x : E) : (Tr.node l x r).size = l.size + 1 + r.size := by
  simp only [Tr.size, Tr.toL, List.length_append, List.length_cons]
  omega
theorem Tr.size_nil : Tr.nil.size = 0 := rfl

/-! ### Dividing -/
theorem parts_append (A B : List E) (f t : Int) : partsL (A ++ B) f t = partsL A f t ++ partsL B f t := by
  simp [partsL, List.filter_append, List.map_append]
theorem parts_cons (x : E) (B : List E) (f t : Int) : partsL (x :: B) f t = (if partB x f t then [partE x f t] else []) ++ partsL B f t := by
  unfold partsL
  by_cases h : partB x f t = true
  · simp [h]
  · simp [h]
theorem part_whole (x : E) (f t : Int) (hx : okB x = true) (h1 : f ≤ x.a) (h2 : x.a + x.n ≤ t) : partB x f t = true ∧ partE x f t = x := by
  obtain ⟨c1, c2, c3, c4, c5⟩ := (okB_iff x).1 hx
  refine ⟨decide_eq_true (by omega), ?_⟩
  unfold partE
  apply E.ext' <;> simp only <;> omega
theorem parts_whole (l : List E) (f t : Int) : (∀ x ∈ l, okB x = true ∧ f ≤ x.a ∧ x.a + x.n ≤ t) → partsL l f t = l := by
  induction l with
  | nil => intro _; rfl
  | cons x r ih =>
    intro h
    obtain ⟨h1, h2, h3⟩ := h x (by simp)
    obtain ⟨p1, p2⟩ := part_whole x f t h1 h2 h3
    rw [parts_cons, p1, p2, ih fun y hy => h y (by simp [hy])]
    rfl
theorem parts_none (l : List E) (f t : Int) : (∀ x ∈ l, x.a + x.n ≤ f ∨ t ≤ x.a) → partsL l f t = [] := by
  induction l with
  | nil => intro _; rfl
  | cons x r ih =>
    intro h
    have := h x (by simp)
    have hp : partB x f t = false := by
      unfold partB
      rw [decide_eq_false_iff_not]
      omega
    rw [parts_cons, hp, ih fun y hy => h y (by simp [hy])]
    rfl
theorem valid_mid {A B : List E} {x : E} (h : validB (A ++ x :: B) = true) : validB A = true ∧ okB x = true ∧ validB B = true ∧ (∀ y ∈ A, y.a + y.n ≤ x.a) ∧ ∀ y ∈ B, x.a + x.n ≤ y.a := by
  obtain ⟨h1, h2⟩ := (validB_iff _).1 h
  rw [List.pairwise_append] at h2
  obtain ⟨p1, p2, p3⟩ := h2
  rw [List.pairwise_cons] at p2
  exact ⟨(validB_iff _).2 ⟨fun y hy => h1 y (by simp [hy]), p1⟩, h1 x (by simp), (validB_iff _).2 ⟨fun y hy => h1 y (by simp [hy]), p2.2⟩, fun y hy => p3 y hy x (by simp), p2.1⟩
section
variable {A B : List E} {x : E} (h : validB (A ++ x :: B) = true)
include h
theorem split_left (p : Int) (hp : p ≤ x.a) : partsL (A ++ x :: B) 0 p = partsL A 0 p ∧ partsL (A ++ x :: B) p 65536 = partsL A p 65536 ++ x :: B := by
  obtain ⟨_, hx, hB, _, h2⟩ := valid_mid h
  have hok := validB_ok hB
  obtain ⟨c1, c2, c3, c4, c5⟩ := (okB_iff x).1 hx
  constructor
  · rw [parts_append, parts_none (x :: B) 0 p fun y hy => ?_, List.append_nil]
    simp at hy
    rcases hy with rfl | hy
    · exact .inr hp
    · have := h2 y hy; exact .inr (by omega)
  · rw [parts_append, parts_whole (x :: B) p 65536 fun y hy => ?_]
    simp at hy
    rcases hy with rfl | hy
    · exact ⟨hx, hp, c4⟩
    · have h3 := h2 y hy
      have h4 := (okB_iff y).1 (hok y hy)
      exact ⟨hok y hy, by omega, h4.2.2.2.1⟩
theorem split_right (p : Int) (hp : x.a + x.n ≤ p) : partsL (A ++ x :: B) 0 p = A ++ x :: partsL B 0 p ∧ partsL (A ++ x :: B) p 65536 = partsL B p 65536 := by
  obtain ⟨hA, hx, _, h1, _⟩ := valid_mid h
  have hok := validB_ok hA
  obtain ⟨c1, c2, c3, c4, c5⟩ := (okB_iff x).1 hx
  constructor
  · rw [show A ++ x :: B = (A ++ [x]) ++ B by simp, parts_append, parts_whole (A ++ [x]) 0 p fun y hy => ?_]
    · simp
    · simp at hy
      rcases hy with hy | rfl
      · have h3 := h1 y hy
        have h4 := (okB_iff y).1 (hok y hy)
        exact ⟨hok y hy, by omega, by omega⟩
      · exact ⟨hx, c2, hp⟩
  · rw [show A ++ x :: B = (A ++ [x]) ++ B by simp, parts_append, parts_none (A ++ [x]) p 65536 fun y hy => ?_]
    · simp
    · simp at hy
      rcases hy with hy | rfl
      · have h3 := h1 y hy; exact .inl (by omega)
      · exact .inl hp
theorem split_mid (p : Int) (h1 : x.a < p) (h2 : p < x.a + x.n) : partsL (A ++ x :: B) 0 p = A ++ [⟨x.a, p - x.a, x.s⟩] ∧ partsL (A ++ x :: B) p 65536 = ⟨p, x.n - (p - x.a), x.s + (p - x.a)⟩ :: B := by
  obtain ⟨hA, hx, hB, hA1, hB1⟩ := valid_mid h
  have hokA := validB_ok hA
  have hokB := validB_ok hB
  obtain ⟨c1, c2, c3, c4, c5⟩ := (okB_iff x).1 hx
  have p1 : partB x 0 p = true := decide_eq_true (by omega)
  have p2 : partB x p 65536 = true := decide_eq_true (by omega)
  have e1 : partE x 0 p = ⟨x.a, p - x.a, x.s⟩ := by unfold partE; apply E.ext' <;> simp only <;> omega
  have e2 : partE x p 65536 = ⟨p, x.n - (p - x.a), x.s + (p - x.a)⟩ := by unfold partE; apply E.ext' <;> simp only <;> omega
  have w1 : partsL A 0 p = A := parts_whole A 0 p fun y hy => by
    have h3 := hA1 y hy
    have h4 := (okB_iff y).1 (hokA y hy)
    exact ⟨hokA y hy, by omega, by omega⟩
  have w2 : partsL B 0 p = [] := parts_none B 0 p fun y hy => by have h3 := hB1 y hy; exact .inr (by omega)
  have w3 : partsL A p 65536 = [] := parts_none A p 65536 fun y hy => by have h3 := hA1 y hy; exact .inl (by omega)
  have w4 : partsL B p 65536 = B := parts_whole B p 65536 fun y hy => by
    have h3 := hB1 y hy
    have h4 := (okB_iff y).1 (hokB y hy)
    exact ⟨hokB y hy, by omega, h4.2.2.2.1⟩
  constructor
  · rw [parts_append, parts_cons, p1, e1, w1, w2]
    simp
  · rw [parts_append, parts_cons, p2, e2, w3, w4]
    simp
end

/-! ### Normal lists -/
/-- No two neighbours could be one. -/
def normB : List E → Bool
  | [] => true
  | [_] => true
  | x :: y :: r => !meets x y && normB (y :: r)
def gapB (A : List E) (x : E) : Bool := match A.getLast? with | none => true | some y => !meets y x
theorem normB_snoc (A : List E) (x : E) : normB (A ++ [x]) = (normB A && gapB A x) := by
  induction A with
  | nil => rfl
  | cons y r ih =>
    cases r with
    | nil => simp [normB, gapB]
    | cons z r =>
      simp only [List.cons_append, normB] at ih ⊢
      rw [ih]
      unfold gapB
      simp only [List.getLast?_cons_cons]
      cases (!meets y z) <;> simp
theorem norm_iff (l : List E) : joinL l = l ↔ normB l = true := by
  refine snoc_ind (P := fun l => joinL l = l ↔ normB l = true) (by simp [joinL, normB]) (fun l x ih => ?_) l
  rw [joinL_snoc, normB_snoc, Bool.and_eq_true, ← ih]
  constructor
  · intro h
    have hl := joinL_length l
    have hpl := pushL_length (joinL l) x
    have hlen : (pushL (joinL l) x).length = l.length + 1 := by rw [h]; simp
    by_cases hj : joinL l = []
    · rw [hj, pushL_nil] at h
      have : l = [] := by
        have h5 := congrArg List.length h
        rw [List.length_append] at h5
        simp only [List.length_cons, List.length_nil] at h5
        exact List.length_eq_zero_iff.1 (by omega)
      subst this
      exact ⟨rfl, rfl⟩
    · obtain ⟨r, y, hr⟩ := snoc_of _ hj
      rw [hr] at h hlen hl
      cases hm : meets y x
      · rw [pushL_no _ _ _ hm] at h
        have h2 := List.append_inj_left' h rfl
        refine ⟨by rw [hr]; exact h2, ?_⟩
        rw [← h2]
        simp [gapB, hm]
      · rw [pushL_yes _ _ _ hm] at hlen
        simp at hlen hl
        omega
  · rintro ⟨h1, h2⟩
    rw [h1]
    by_cases hj : l = []
    · subst hj; rfl
    · obtain ⟨r, y, hr⟩ := snoc_of _ hj
      rw [hr] at h2 ⊢
      simp [gapB] at h2
      rw [pushL_no _ _ _ h2]

theorem normB_cons {x y : E} {r : List E} : normB (x :: y :: r) = (!meets x y && normB (y :: r)) := rfl
theorem normB_tail {x : E} {r : List E} (h : normB (x :: r) = true) : normB r = true := by
  cases r with
  | nil => rfl
  | cons y r => rw [normB_cons, Bool.and_eq_true] at h; exact h.2
/-- Two normal lists with a gap between them. -/
theorem normB_append (A B : List E) (hA : normB A = true) (hB : normB B = true) (h : ∀ y x, A.getLast? = some y → B.head? = some x → meets y x = false) : normB (A ++ B) = true := by
  induction A with
  | nil => exact hB
  | cons z r ih =>
    cases r with
    | nil =>
      cases B with
      | nil => rfl
      | cons x B =>
        rw [List.cons_append, List.nil_append, normB_cons, h z x rfl rfl, hB]
        rfl
    | cons w r =>
      rw [normB_cons, Bool.and_eq_true] at hA
      rw [List.cons_append, List.cons_append, normB_cons, hA.1]
      exact ih hA.2 fun y x h1 h2 => h y x (by rw [List.getLast?_cons_cons]; exact h1) h2
/-- The parts of a normal valid list are normal. -/
theorem parts_norm (l : List E) (f t : Int) : validB l = true → normB l = true → normB (partsL l f t) = true := by
  induction l with
  | nil => intro _ _; rfl
  | cons x r ih =>
    intro hv hn
    obtain ⟨_, hx, hr, _, hB⟩ := valid_mid (A := []) hv
    have h1 := ih hr (normB_tail hn)
    rw [parts_cons]
    cases hp : partB x f t
    · simpa using h1
    · refine normB_append [partE x f t] _ rfl h1 fun y z hy hz => ?_
      simp at hy
      subst hy
      have hzm : z ∈ partsL r f t := List.mem_of_mem_head? hz
      have hpx : max x.a f < min (x.a + x.n) t := of_decide_eq_true hp
      cases r with
      | nil => simp [partsL] at hz
      | cons u r =>
        rw [normB_cons, Bool.and_eq_true] at hn
        have hxu : meets x u = false := by simpa using hn.1
        have hua := hB u (by simp)
        have hu := (okB_iff u).1 (validB_ok hr u (by simp))
        obtain ⟨_, _, _, _, hur⟩ := valid_mid (A := []) hr
        rw [parts_cons] at hz
        cases hpu : partB u f t
        · -- the next one does not reach into the range: all behind begin at t or later, or it ends before f
          rw [hpu] at hz
          simp only [Bool.false_eq_true, if_false, List.nil_append] at hz
          have hzm2 : z ∈ partsL r f t := List.mem_of_mem_head? hz
          obtain ⟨v, hv1, rfl⟩ := List.mem_map.1 hzm2
          obtain ⟨hv2, hv3⟩ := List.mem_filter.1 hv1
          have hpv : max v.a f < min (v.a + v.n) t := of_decide_eq_true hv3
          have hnu : ¬ max u.a f < min (u.a + u.n) t := of_decide_eq_false hpu
          have hva := hur v hv2
          unfold meets
          rw [Bool.and_eq_false_iff]
          left
          simp only [partE, decide_eq_false_iff_not]
          omega
        · rw [hpu] at hz
          simp only [if_true, List.cons_append, List.nil_append, List.head?_cons, Option.some.injEq] at hz
          subst hz
          have hpu' : max u.a f < min (u.a + u.n) t := of_decide_eq_true hpu
          unfold meets at hxu
          rw [Bool.and_eq_false_iff, decide_eq_false_iff_not, decide_eq_false_iff_not] at hxu
          have q1 : (partE x f t).a + (partE x f t).n = min (x.a + x.n) t := by simp only [partE]; omega
          have q2 : (partE u f t).a = max u.a f := rfl
          have q3 : (partE x f t).s + (partE x f t).n = x.s + (min (x.a + x.n) t - x.a) := by simp only [partE]; omega
          have q4 : (partE u f t).s = u.s + (max u.a f - u.a) := by simp only [partE]; omega
          unfold meets
          rw [Bool.and_eq_false_iff, decide_eq_false_iff_not, decide_eq_false_iff_not, q1, q2, q3, q4]
          by_cases h6 : x.a + x.n = u.a
          · have h7 : ¬ x.s + x.n = u.s := hxu.resolve_left (fun h => h h6)
            omega
          · left
            omega

theorem pushAll_norm (r : List E) : ∀ (L : List E) (w : E), (∀ h, r.head? = some h → meets w h = false) → normB r = true → pushAll (L ++ [w]) r = L ++ [w] ++ r := by
  induction r with
  | nil => intro L w _ _; simp [pushAll]
  | cons z r ih =>
    intro L w h1 h2
    have h3 : pushAll (L ++ [w]) (z :: r) = pushAll (pushL (L ++ [w]) z) r := rfl
    rw [h3, pushL_no _ _ _ (h1 z rfl), ih (L ++ [w]) z (fun u hu => ?_) (normB_tail h2)]
    · simp
    · cases r with
      | nil => simp at hu
      | cons v r =>
        simp only [List.head?_cons, Option.some.injEq] at hu
        subst hu
        rw [normB_cons, Bool.and_eq_true] at h2
        simpa using h2.1
theorem put_end_no (L : List E) (w : E) (B : List E) (hB : normB B = true) (h : ∀ z, B.head? = some z → meets w z = false) : pushAll (L ++ [w]) B = L ++ w :: B := by
  rw [pushAll_norm B L w h hB]
  simp
theorem put_end_yes (L : List E) (w z : E) (r : List E) (hB : normB (z :: r) = true) (h : meets w z = true) : pushAll (L ++ [w]) (z :: r) = L ++ w.longer z.n :: r := by
  have h3 : pushAll (L ++ [w]) (z :: r) = pushAll (pushL (L ++ [w]) z) r := rfl
  rw [h3, pushL_yes _ _ _ h, pushAll_norm r L (w.longer z.n) (fun u hu => ?_) (normB_tail hB)]
  · simp
  · cases r with
    | nil => simp at hu
    | cons v r =>
      simp only [List.head?_cons, Option.some.injEq] at hu
      subst hu
      rw [normB_cons, Bool.and_eq_true] at hB
      have h1 : meets z v = false := by simpa using hB.1
      unfold meets at h h1 ⊢
      rw [Bool.and_eq_true, decide_eq_true_eq, decide_eq_true_eq] at h
      rw [Bool.and_eq_false_iff, decide_eq_false_iff_not, decide_eq_false_iff_not] at h1 ⊢
      simp only [E.longer]
      omega
/-- The new list is the parts before, the extent and the parts behind, joined. -/
theorem put_tree (l : List E) (x : E) (hv : validB l = true) (hn : normB l = true) : putL l x = pushAll (pushL (partsL l 0 x.a) x) (partsL l (x.a + x.n) 65536) := by
  have h1 := (norm_iff _).2 (parts_norm l 0 x.a hv hn)
  unfold putL
  rw [joinL_append, h1]
  rfl

/-! ### A range cut out -/
theorem parts_low (l : List E) (p q : Int) (hp : 0 ≤ p) (hq : q ≤ 65536) : (∀ x ∈ l, okB x = true) → partsL (partsL l p 65536) 0 q = partsL l p q := by
  induction l with
  | nil => intro _; rfl
  | cons x r ih =>
    intro h
    obtain ⟨c1, c2, c3, c4, c5⟩ := (okB_iff x).1 (h x (by simp))
    rw [parts_cons, parts_append, ih fun y hy => h y (by simp [hy]), parts_cons x r p q]
    congr 1
    cases h1 : partB x p 65536
    · have h2 : partB x p q = false := by
        have h1' : ¬ max x.a p < min (x.a + x.n) 65536 := of_decide_eq_false h1
        exact decide_eq_false (by omega)
      rw [h2]; rfl
    · have h1' : max x.a p < min (x.a + x.n) 65536 := of_decide_eq_true h1
      simp only [if_true]
      rw [parts_cons]
      have e1 : partB (partE x p 65536) 0 q = partB x p q := by
        unfold partB partE
        rw [Bool.eq_iff_iff, decide_eq_true_eq, decide_eq_true_eq]
        simp only
        omega
      have e2 : partE (partE x p 65536) 0 q = partE x p q := by
        unfold partE
        apply E.ext' <;> simp only <;> omega
      rw [e1, e2]
      simp [partsL]
theorem parts_high (l : List E) (p q : Int) (hp : 0 ≤ p) (hpq : p ≤ q) : (∀ x ∈ l, okB x = true) → partsL (partsL l p 65536) q 65536 = partsL l q 65536 := by
  induction l with
  | nil => intro _; rfl
  | cons x r ih =>
    intro h
    obtain ⟨c1, c2, c3, c4, c5⟩ := (okB_iff x).1 (h x (by simp))
    rw [parts_cons, parts_append, ih fun y hy => h y (by simp [hy]), parts_cons x r q 65536]
    congr 1
    cases h1 : partB x p 65536
    · have h2 : partB x q 65536 = false := by
        have h1' : ¬ max x.a p < min (x.a + x.n) 65536 := of_decide_eq_false h1
        exact decide_eq_false (by omega)
      rw [h2]; rfl
    · have h1' : max x.a p < min (x.a + x.n) 65536 := of_decide_eq_true h1
      simp only [if_true]
      rw [parts_cons]
      have e1 : partB (partE x p 65536) q 65536 = partB x q 65536 := by
        unfold partB partE
        rw [Bool.eq_iff_iff, decide_eq_true_eq, decide_eq_true_eq]
        simp only
        omega
      have e2 : partE (partE x p 65536) q 65536 = partE x q 65536 := by
        unfold partE
        apply E.ext' <;> simp only <;> omega
      rw [e1, e2]
      simp [partsL]
theorem cut_tree (l : List E) (p n : Int) (hn : 1 ≤ n) (hv : validB l = true) (hnm : normB l = true) : cutL l p n = partsL l 0 p ++ partsL l (p + n) 65536 := by
  rw [cutL_eq l p n (by omega) hv, (norm_iff _).2]
  refine normB_append _ _ (parts_norm l _ _ hv hnm) (parts_norm l _ _ hv hnm) fun y z hy hz => ?_
  have h1 := parts_range l 0 p y (List.mem_of_getLast? hy)
  have h2 := parts_range l (p + n) 65536 z (List.mem_of_mem_head? hz)
  unfold meets
  rw [Bool.and_eq_false_iff]
  left
  rw [decide_eq_false_iff_not]
  omega
theorem in_tree (l : List E) (p n : Int) (hv : validB l = true) (hnm : normB l = true) : inL l p n = partsL l p (p + n) := by
  rw [inL_eq, (norm_iff _).2 (parts_norm l _ _ hv hnm)]
theorem cut_zero (l : List E) (p : Int) (hv : validB l = true) (hnm : normB l = true) : cutL l p 0 = l := by
  rw [cutL_eq l p 0 (Int.le_refl _) hv, Int.add_zero]
  have h := join_unique (partsL l 0 p ++ partsL l p 65536) l (parts_append_valid l 0 p p 65536 hv (Int.le_refl _)) hv fun q => ?_
  · rw [h, (norm_iff _).2 hnm]
  · rw [slotAt_append, slotAt_parts, slotAt_parts]
    by_cases h1 : 0 ≤ q ∧ q < 65536
    · by_cases h2 : q < p
      · rw [if_pos ⟨h1.1, h2⟩, if_neg (by omega)]; simp
      · rw [if_neg (by omega), if_pos ⟨by omega, h1.2⟩]; simp
    · rw [slotAt_range l hv q (by omega)]
      split <;> split <;> rfl
end Go.Proofs.Ytnfaciageadlkaa

namespace Go.Proofs.Ytnfaciageadlkaa
set_option linter.unusedSimpArgs false
set_option linter.unusedVariables false
set_option maxRecDepth 100000

theorem if_iff {p q : Prop} [Decidable p] [Decidable q] (h : p ↔ q) : (if p then (1 : Int) else 0) = if q then 1 else 0 := by
  by_cases hq : q
  · rw [if_pos hq, if_pos (h.2 hq)]
  · rw [if_neg hq, if_neg fun hp => hq (h.1 hp)]
theorem ite01 (p : Prop) [Decidable p] : ∃ k : Int, (if p then (1 : Int) else 0) = k ∧ ((p ∧ k = 1) ∨ (¬ p ∧ k = 0)) := by
  by_cases h : p
  · exact ⟨1, if_pos h, .inl ⟨h, rfl⟩⟩
  · exact ⟨0, if_neg h, .inr ⟨h, rfl⟩⟩
theorem cnt_append (A B : List E) (i : Nat) : cnt (A ++ B) i = cnt A i + cnt B i := by
  induction A with
  | nil => simp [cnt]
  | cons x r ih =>
    simp only [List.cons_append, cnt, ih]
    omega
def cntX (x : E) (i : Nat) : Int := if x.s ≤ (i : Int) ∧ (i : Int) < x.s + x.n then 1 else 0
theorem cntX_is (x : E) (i : Nat) : ∃ k : Int, cntX x i = k ∧ (((x.s ≤ (i : Int) ∧ (i : Int) < x.s + x.n) ∧ k = 1) ∨ (¬ (x.s ≤ (i : Int) ∧ (i : Int) < x.s + x.n) ∧ k = 0)) := ite01 _
theorem cnt_cons (x : E) (r : List E) (i : Nat) : cnt (x :: r) i = cntX x i + cnt r i := rfl
theorem cnt_one (x : E) (i : Nat) : cnt [x] i = cntX x i := by simp [cnt, cntX]
theorem cnt_push (l : List E) (x : E) (i : Nat) (hl : ∀ y ∈ l, 0 ≤ y.n) (hx : 0 ≤ x.n) : cnt (pushL l x) i = cnt l i + cntX x i := by
  by_cases h : l = []
  · subst h
    rw [pushL_nil, cnt_one]
    simp [cnt]
  · obtain ⟨l', y, rfl⟩ := snoc_of l h
    cases hm : meets y x
    · rw [pushL_no _ _ _ hm, cnt_append, cnt_one]
    · rw [pushL_yes _ _ _ hm, cnt_append, cnt_append, cnt_one, cnt_one]
      have hy := hl y (by simp)
      obtain ⟨h1, h2⟩ := (meets_iff y x).1 hm
      obtain ⟨k1, e1, g1⟩ := cntX_is (y.longer x.n) i
      obtain ⟨k2, e2, g2⟩ := cntX_is y i
      obtain ⟨k3, e3, g3⟩ := cntX_is x i
      have q1 : (y.longer x.n).s = y.s := rfl
      have q2 : (y.longer x.n).n = y.n + x.n := rfl
      rw [e1, e2, e3]
      omega
theorem cnt_join (l : List E) (i : Nat) : (∀ x ∈ l, okB x = true) → cnt (joinL l) i = cnt l i := by
  refine snoc_ind (P := fun l => (∀ x ∈ l, okB x = true) → cnt (joinL l) i = cnt l i) (fun _ => rfl) (fun l x ih h => ?_) l
  have hl : ∀ y ∈ l, okB y = true := fun y hy => h y (by simp [hy])
  have hx := (okB_iff x).1 (h x (by simp))
  rw [joinL_snoc, cnt_push _ _ _ (joinL_nonneg l hl) (by omega), ih hl, cnt_append, cnt_one]
theorem cnt_parts (l : List E) (p q : Int) (i : Nat) (hp : 0 ≤ p) (hpq : p ≤ q) (hq : q ≤ 65536) : (∀ x ∈ l, okB x = true) → cnt (partsL l 0 p) i + cnt (partsL l p q) i + cnt (partsL l q 65536) i = cnt l i := by
  induction l with
  | nil => intro _; rfl
  | cons x r ih =>
    intro h
    have h1 := ih fun y hy => h y (by simp [hy])
    obtain ⟨c1, c2, c3, c4, c5⟩ := (okB_iff x).1 (h x (by simp))
    rw [parts_cons, parts_cons, parts_cons, cnt_append, cnt_append, cnt_append, cnt_cons]
    have e1 : cnt (if partB x 0 p = true then [partE x 0 p] else []) i = if x.s ≤ (i : Int) ∧ (i : Int) < x.s + x.n ∧ (i : Int) < x.s + (p - x.a) then 1 else 0 := by
      by_cases hb : max x.a 0 < min (x.a + x.n) p
      · rw [if_pos (show partB x 0 p = true from decide_eq_true hb), cnt_one]
        exact if_iff (by simp only [partE]; omega)
      · rw [if_neg (show ¬ partB x 0 p = true by simpa [partB] using hb)]
        rw [if_neg (by omega)]
        rfl
    have e2 : cnt (if partB x p q = true then [partE x p q] else []) i = if x.s ≤ (i : Int) ∧ (i : Int) < x.s + x.n ∧ x.s + (p - x.a) ≤ (i : Int) ∧ (i : Int) < x.s + (q - x.a) then 1 else 0 := by
      by_cases hb : max x.a p < min (x.a + x.n) q
      · rw [if_pos (show partB x p q = true from decide_eq_true hb), cnt_one]
        exact if_iff (by simp only [partE]; omega)
      · rw [if_neg (show ¬ partB x p q = true by simpa [partB] using hb)]
        rw [if_neg (by omega)]
        rfl
    have e3 : cnt (if partB x q 65536 = true then [partE x q 65536] else []) i = if x.s ≤ (i : Int) ∧ (i : Int) < x.s + x.n ∧ x.s + (q - x.a) ≤ (i : Int) then 1 else 0 := by
      by_cases hb : max x.a q < min (x.a + x.n) 65536
      · rw [if_pos (show partB x q 65536 = true from decide_eq_true hb), cnt_one]
        exact if_iff (by simp only [partE]; omega)
      · rw [if_neg (show ¬ partB x q 65536 = true by simpa [partB] using hb)]
        rw [if_neg (by omega)]
        rfl
    rw [e1, e2, e3, ← h1]
    simp only [cntX]
    obtain ⟨k1, e1, g1⟩ := ite01 (x.s ≤ (i : Int) ∧ (i : Int) < x.s + x.n ∧ (i : Int) < x.s + (p - x.a))
    obtain ⟨k2, e2, g2⟩ := ite01 (x.s ≤ (i : Int) ∧ (i : Int) < x.s + x.n ∧ x.s + (p - x.a) ≤ (i : Int) ∧ (i : Int) < x.s + (q - x.a))
    obtain ⟨k3, e3, g3⟩ := ite01 (x.s ≤ (i : Int) ∧ (i : Int) < x.s + x.n ∧ x.s + (q - x.a) ≤ (i : Int))
    obtain ⟨k4, e4, g4⟩ := ite01 (x.s ≤ (i : Int) ∧ (i : Int) < x.s + x.n)
    rw [e1, e2, e3, e4]
    omega
theorem cnt_in (l : List E) (p n : Int) (i : Nat) (h : ∀ x ∈ l, okB x = true) : cnt (inL l p n) i = cnt (partsL l p (p + n)) i := by
  rw [inL_eq, cnt_join _ _ (partsL_ok l _ _ h)]
theorem cnt_put (l : List E) (x : E) (i : Nat) (hx : okB x = true) (hv : validB l = true) : cnt (putL l x) i + cnt (inL l x.a x.n) i = cnt l i + cntX x i := by
  have hok := validB_ok hv
  obtain ⟨c1, c2, c3, c4, c5⟩ := (okB_iff x).1 hx
  unfold putL
  rw [cnt_in _ _ _ _ hok, cnt_join _ _ fun y hy => ?_, cnt_append, cnt_append, cnt_one, ← cnt_parts l x.a (x.a + x.n) i c2 (by omega) c4 hok]
  · omega
  · simp only [List.mem_append, List.mem_singleton] at hy
    rcases hy with hy | rfl | hy
    · exact partsL_ok l _ _ hok y hy
    · exact hx
    · exact partsL_ok l _ _ hok y hy
theorem cnt_cut (l : List E) (p n : Int) (i : Nat) (hp : withinB p n 65536 = true) (hv : validB l = true) : cnt (cutL l p n) i + cnt (inL l p n) i = cnt l i := by
  have hok := validB_ok hv
  have hp' : 0 ≤ p ∧ 0 ≤ n ∧ p ≤ 65536 ∧ n ≤ 65536 - p := of_decide_eq_true hp
  rw [cutL_eq l p n hp'.2.1 hv, cnt_in _ _ _ _ hok, cnt_join _ _ fun y hy => ?_, cnt_append, ← cnt_parts l p (p + n) i hp'.1 (by omega) (by omega) hok]
  · omega
  · simp only [List.mem_append] at hy
    rcases hy with hy | hy
    · exact partsL_ok l _ _ hok y hy
    · exact partsL_ok l _ _ hok y hy

/-! ### Slots in range -/
theorem mem_parts {l : List E} {f t : Int} {y : E} (h : y ∈ partsL l f t) : ∃ x ∈ l, partB x f t = true ∧ y = partE x f t := by
  obtain ⟨x, hx, rfl⟩ := List.mem_map.1 h
  obtain ⟨h1, h2⟩ := List.mem_filter.1 hx
  exact ⟨x, h1, h2, rfl⟩
theorem perm_parts {N : Nat} {l : List E} (f t : Int) (h : permB N l = true) : permB N (partsL l f t) = true := by
  refine (permB_iff _ _).2 fun y hy => ?_
  obtain ⟨x, hx, hp, rfl⟩ := mem_parts hy
  have := (permB_iff _ _).1 h x hx
  have hp' : max x.a f < min (x.a + x.n) t := of_decide_eq_true hp
  simp only [partE]
  omega
theorem perm_push {N : Nat} {l : List E} {x : E} (h : permB N l = true) (hx : 1 ≤ x.n ∧ 0 ≤ x.s ∧ x.s + x.n ≤ N) : permB N (pushL l x) = true := by
  by_cases hl : l = []
  · subst hl
    exact (permB_iff _ _).2 fun y hy => by simp [pushL] at hy; rw [hy]; exact hx
  · obtain ⟨l', y, rfl⟩ := snoc_of l hl
    have h' := (permB_iff _ _).1 h
    refine (permB_iff _ _).2 fun z hz => ?_
    cases hm : meets y x
    · rw [pushL_no _ _ _ hm] at hz
      simp only [List.mem_append, List.mem_singleton] at hz
      rcases hz with (hz | rfl) | rfl
      · exact h' z (by simp [hz])
      · exact h' z (by simp)
      · exact hx
    · rw [pushL_yes _ _ _ hm] at hz
      simp only [List.mem_append, List.mem_singleton] at hz
      rcases hz with hz | rfl
      · exact h' z (by simp [hz])
      · have hy := h' y (by simp)
        have := (meets_iff y x).1 hm
        simp only [E.longer]
        omega
theorem perm_join {N : Nat} (l : List E) : permB N l = true → permB N (joinL l) = true := by
  refine snoc_ind (P := fun l => permB N l = true → permB N (joinL l) = true) (fun h => h) (fun l x ih h => ?_) l
  have h' := (permB_iff _ _).1 h
  rw [joinL_snoc]
  exact perm_push (ih ((permB_iff _ _).2 fun y hy => h' y (by simp [hy]))) (h' x (by simp))
theorem perm_in {N : Nat} {l : List E} (p n : Int) (h : permB N l = true) : permB N (inL l p n) = true := by
  rw [inL_eq]
  exact perm_join _ (perm_parts _ _ h)
theorem perm_append {N : Nat} {A B : List E} (hA : permB N A = true) (hB : permB N B = true) : permB N (A ++ B) = true := by
  rw [permB] at *
  rw [List.all_append, hA, hB]
  rfl
theorem perm_put {N : Nat} {l : List E} {x : E} (h : permB N l = true) (hx : 1 ≤ x.n ∧ 0 ≤ x.s ∧ x.s + x.n ≤ N) : permB N (putL l x) = true :=
  perm_join _ (perm_append (perm_parts _ _ h) (perm_append ((permB_iff _ _).2 fun y hy => by simp at hy; rw [hy]; exact hx) (perm_parts _ _ h)))
theorem perm_cut {N : Nat} {l : List E} (p n : Int) (hn : 0 ≤ n) (hv : validB l = true) (h : permB N l = true) : permB N (cutL l p n) = true := by
  rw [cutL_eq l p n hn hv]
  exact perm_join _ (perm_append (perm_parts _ _ h) (perm_parts _ _ h))

/-! ### Blocks in range -/
def inside (l : List E) (m : Int) : Prop := ∀ x ∈ l, x.a + x.n ≤ m
theorem inside_parts {l : List E} {m : Int} (f t : Int) (h : inside l m) : inside (partsL l f t) m := fun y hy => by
  obtain ⟨x, hx, hp, rfl⟩ := mem_parts hy
  have := h x hx
  have hp' : max x.a f < min (x.a + x.n) t := of_decide_eq_true hp
  simp only [partE]
  omega
theorem inside_join {l : List E} {m : Int} (hok : ∀ x ∈ l, okB x = true) (h : inside l m) : inside (joinL l) m := fun y hy =>
  (join_range l 0 m (fun x hx => by have := (okB_iff x).1 (hok x hx); omega) (fun x hx => ⟨by have := (okB_iff x).1 (hok x hx); omega, h x hx⟩) y hy).2
theorem inside_put {l : List E} {x : E} {m : Int} (hx : okB x = true) (hm : x.a + x.n ≤ m) (hv : validB l = true) (h : inside l m) : inside (putL l x) m := by
  have hok := validB_ok hv
  refine inside_join (fun y hy => ?_) fun y hy => ?_
  · simp only [List.mem_append, List.mem_singleton] at hy
    rcases hy with hy | rfl | hy
    · exact partsL_ok l _ _ hok y hy
    · exact hx
    · exact partsL_ok l _ _ hok y hy
  · simp only [List.mem_append, List.mem_singleton] at hy
    rcases hy with hy | rfl | hy
    · exact inside_parts _ _ h y hy
    · exact hm
    · exact inside_parts _ _ h y hy
theorem inside_cut {l : List E} {m : Int} (p n : Int) (hn : 0 ≤ n) (hv : validB l = true) (h : inside l m) : inside (cutL l p n) m := by
  have hok := validB_ok hv
  rw [cutL_eq l p n hn hv]
  refine inside_join (fun y hy => ?_) fun y hy => ?_
  · simp only [List.mem_append] at hy
    rcases hy with hy | hy <;> exact partsL_ok l _ _ hok y hy
  · simp only [List.mem_append] at hy
    rcases hy with hy | hy <;> exact inside_parts _ _ h y hy
theorem inside_length (l : List E) (m : Int) : ∀ e, e ≤ m → inside l m → validFrom e l = true → (l.length : Int) + e ≤ m := by
  induction l with
  | nil => intro e h0 _ _; simpa using h0
  | cons x r ih =>
    intro e h0 hi h
    simp only [validFrom, Bool.and_eq_true, decide_eq_true_eq] at h
    have hx := (okB_iff x).1 h.1
    have hxm := hi x (by simp)
    have := ih (x.a + x.n) hxm (fun y hy => hi y (by simp [hy])) h.2.2
    simp only [List.length_cons]
    omega
theorem norm_put (l : List E) (x : E) : normB (putL l x) = true := (norm_iff _).1 (joinL_join _)
theorem norm_cut (l : List E) (p n : Int) (hn : 0 ≤ n) (hv : validB l = true) : normB (cutL l p n) = true := by
  rw [cutL_eq l p n hn hv]
  exact (norm_iff _).1 (joinL_join _)
theorem norm_in (l : List E) (p n : Int) : normB (inL l p n) = true := by
  rw [inL_eq]
  exact (norm_iff _).1 (joinL_join _)
theorem in_all {l : List E} {m : Int} (hv : validB l = true) (hn : normB l = true) (h : inside l m) : inL l 0 m = l := by
  rw [in_tree l 0 m hv hn, Int.zero_add]
  exact parts_whole l 0 m fun x hx => ⟨validB_ok hv x hx, by have := (okB_iff x).1 (validB_ok hv x hx); omega, h x hx⟩
end Go.Proofs.Ytnfaciageadlkaa

namespace Go.Proofs.Ytnfaciageadlkaa
set_option linter.unusedSimpArgs false
set_option linter.unusedVariables false
set_option maxRecDepth 100000

structure Vol where
  nm : List UInt8
  n : Int
  r : Int
  l : List E
structure Fam where
  N : Nat
  vs : List Vol
def letterB (c : UInt8) : Bool := decide (97 ≤ c.toNat) && decide (c.toNat ≤ 122)
def digitB (c : UInt8) : Bool := decide (48 ≤ c.toNat) && decide (c.toNat ≤ 57)
def charsB : Bool → List UInt8 → Bool
  | _, [] => true
  | f, c :: r => (letterB c || (!f && digitB c)) && charsB false r
def nameB (s : List UInt8) : Bool := charsB true s && (decide (1 ≤ s.length) && decide (s.length ≤ 16))
theorem charsB_snoc (s : List UInt8) (c : UInt8) : ∀ f, charsB f (s ++ [c]) = (charsB f s && (letterB c || (!(f && s.isEmpty) && digitB c))) := by
  induction s with
  | nil => intro f; simp [charsB]
  | cons a r ih =>
    intro f
    simp only [List.cons_append, charsB, ih false]
    simp [Bool.and_assoc]
theorem charsB_take (s : List UInt8) (k : Nat) (h : k < s.length) : charsB true (s.take (k + 1)) = (charsB true (s.take k) && (letterB s[k] || (decide (0 < k) && digitB s[k]))) := by
  rw [List.take_succ_eq_append_getElem h, charsB_snoc]
  congr 2
  cases k with
  | zero => simp
  | succ k =>
    cases s with
    | nil => simp at h
    | cons a r => simp
theorem charsB_short (s : List UInt8) (k : Nat) (h : charsB true (s.take k) = false) : charsB true s = false := by
  have h1 : ∀ (s : List UInt8) (k : Nat) (f : Bool), charsB f (s.take k) = false → charsB f s = false := by
    intro s
    induction s with
    | nil => intro k f h; simpa using h
    | cons a r ih =>
      intro k f h
      cases k with
      | zero => simp [charsB] at h
      | succ k =>
        simp only [List.take_succ_cons, charsB, Bool.and_eq_false_iff] at h ⊢
        rcases h with h | h
        · exact .inl h
        · exact .inr (ih k false h)
  exact h1 s k true h

/-! ### The list of volumes -/
def insV (v : Vol) : List Vol → List Vol
  | [] => [v]
  | w :: r => if bytesBefore v.nm w.nm then v :: w :: r else w :: insV v r
def delV (vs : List Vol) (nm : List UInt8) : List Vol := vs.filter fun w => !(w.nm == nm)
def putV (vs : List Vol) (v : Vol) : List Vol := insV v (delV vs v.nm)
def getV (vs : List Vol) (nm : List UInt8) : Option Vol := vs.find? fun w => w.nm == nm
def sortedV (vs : List Vol) : Prop := vs.Pairwise fun a b => bytesBefore a.nm b.nm = true
theorem mem_insV {v x : Vol} {vs : List Vol} : x ∈ insV v vs ↔ x = v ∨ x ∈ vs := by
  induction vs with
  | nil => simp [insV]
  | cons w r ih =>
    unfold insV
    split
    · simp
    · simp only [List.mem_cons, ih]
      constructor
      · rintro (h | h | h)
        · exact .inr (.inl h)
        · exact .inl h
        · exact .inr (.inr h)
      · rintro (h | h | h)
        · exact .inr (.inl h)
        · exact .inl h
        · exact .inr (.inr h)
theorem length_insV (v : Vol) (vs : List Vol) : (insV v vs).length = vs.length + 1 := by
  induction vs with
  | nil => rfl
  | cons w r ih =>
    unfold insV
    split
    · rfl
    · simp [ih]
theorem sum_insV (f : Vol → Int) (v : Vol) (vs : List Vol) : ((insV v vs).map f).sum = f v + (vs.map f).sum := by
  induction vs with
  | nil => simp [insV]
  | cons w r ih =>
    unfold insV
    split
    · simp
    · simp only [List.map_cons, List.sum_cons, ih]
      omega
theorem mem_delV {x : Vol} {vs : List Vol} {nm : List UInt8} : x ∈ delV vs nm ↔ x ∈ vs ∧ x.nm ≠ nm := by simp [delV]
theorem mem_putV {x v : Vol} {vs : List Vol} : x ∈ putV vs v ↔ x = v ∨ (x ∈ vs ∧ x.nm ≠ v.nm) := by unfold putV; rw [mem_insV, mem_delV]
theorem sorted_del {vs : List Vol} (h : sortedV vs) (nm : List UInt8) : sortedV (delV vs nm) := h.filter _
theorem sorted_ins {v : Vol} {vs : List Vol} (h : sortedV vs) (hne : ∀ w ∈ vs, w.nm ≠ v.nm) : sortedV (insV v vs) := by
  induction vs with
  | nil => simp [insV, sortedV]
  | cons w r ih =>
    obtain ⟨h1, h2⟩ := List.pairwise_cons.1 h
    unfold insV
    split
    · rename_i hb
      refine List.pairwise_cons.2 ⟨fun x hx => ?_, h⟩
      rcases List.mem_cons.1 hx with rfl | hx
      · exact hb
      · exact WideShapes.bytes_trans _ _ _ hb (h1 x hx)
    · rename_i hb
      have hw : bytesBefore w.nm v.nm = true := (WideAt.bytes_total w.nm v.nm (hne w (by simp))).resolve_right (by simpa using hb)
      refine List.pairwise_cons.2 ⟨fun x hx => ?_, ih h2 fun x hx => hne x (by simp [hx])⟩
      rcases mem_insV.1 hx with rfl | hx
      · exact hw
      · exact h1 x hx
theorem sorted_put {v : Vol} {vs : List Vol} (h : sortedV vs) : sortedV (putV vs v) := sorted_ins (sorted_del h _) fun _ hw => (mem_delV.1 hw).2
theorem sorted_uniq {vs : List Vol} (h : sortedV vs) {a b : Vol} (ha : a ∈ vs) (hb : b ∈ vs) (he : a.nm = b.nm) : a = b := by
  induction vs with
  | nil => simp at ha
  | cons w r ih =>
    obtain ⟨h1, h2⟩ := List.pairwise_cons.1 h
    rcases List.mem_cons.1 ha with rfl | ha'
    · rcases List.mem_cons.1 hb with rfl | hb'
      · rfl
      · have := h1 b hb'
        rw [he, WideAt.bytes_irrefl] at this
        cases this
    · rcases List.mem_cons.1 hb with rfl | hb'
      · have := h1 a ha'
        rw [he, WideAt.bytes_irrefl] at this
        cases this
      · exact ih h2 ha' hb'
theorem getV_mem {vs : List Vol} {nm : List UInt8} {v : Vol} (h : getV vs nm = some v) : v ∈ vs ∧ v.nm = nm :=
  ⟨List.mem_of_find?_eq_some h, by simpa using List.find?_some h⟩
theorem getV_none {vs : List Vol} {nm : List UInt8} : getV vs nm = none ↔ ∀ w ∈ vs, w.nm ≠ nm := by simp [getV]
theorem getV_of {vs : List Vol} (h : sortedV vs) {v : Vol} (hv : v ∈ vs) : getV vs v.nm = some v := by
  cases hg : getV vs v.nm with
  | none => exact absurd rfl (getV_none.1 hg v hv)
  | some w =>
    obtain ⟨h1, h2⟩ := getV_mem hg
    rw [sorted_uniq h h1 hv h2]
theorem getV_put {vs : List Vol} (h : sortedV vs) (v : Vol) (nm : List UInt8) : getV (putV vs v) nm = if nm = v.nm then some v else getV vs nm := by
  split
  · rename_i he
    subst he
    exact getV_of (sorted_put h) (mem_putV.2 (.inl rfl))
  · rename_i he
    cases hg : getV vs nm with
    | none =>
      rw [getV_none] at hg ⊢
      intro w hw
      rcases mem_putV.1 hw with rfl | hw
      · exact fun h => he h.symm
      · exact hg w hw.1
    | some w =>
      obtain ⟨h1, rfl⟩ := getV_mem hg
      exact getV_of (sorted_put h) (mem_putV.2 (.inr ⟨h1, he⟩))
theorem getV_del {vs : List Vol} (h : sortedV vs) (nm nm' : List UInt8) : getV (delV vs nm) nm' = if nm' = nm then none else getV vs nm' := by
  split
  · rename_i he
    subst he
    exact getV_none.2 fun w hw => (mem_delV.1 hw).2
  · rename_i he
    cases hg : getV vs nm' with
    | none =>
      rw [getV_none] at hg ⊢
      exact fun w hw => hg w (mem_delV.1 hw).1
    | some w =>
      obtain ⟨h1, rfl⟩ := getV_mem hg
      exact getV_of (sorted_del h _) (mem_delV.2 ⟨h1, he⟩)
theorem del_sum (f : Vol → Int) {vs : List Vol} (h : sortedV vs) {v : Vol} (hv : getV vs v.nm = some v) : ((delV vs v.nm).map f).sum + f v = (vs.map f).sum := by
  induction vs with
  | nil => simp [getV] at hv
  | cons w r ih =>
    obtain ⟨h1, h2⟩ := List.pairwise_cons.1 h
    by_cases he : w.nm = v.nm
    · have hw : w = v := sorted_uniq h (by simp) (getV_mem hv).1 he
      subst hw
      have : delV (w :: r) w.nm = r := by
        unfold delV
        rw [List.filter_cons_of_neg (by simp), List.filter_eq_self]
        intro x hx
        have := h1 x hx
        simp only [Bool.not_eq_true', beq_eq_false_iff_ne, ne_eq]
        intro hn
        rw [hn, WideAt.bytes_irrefl] at this
        cases this
      rw [this]
      simp only [List.map_cons, List.sum_cons]
      omega
    · have hg : getV r v.nm = some v := by
        have h3 := hv
        unfold getV at h3 ⊢
        rw [List.find?_cons_of_neg (by simpa using he)] at h3
        exact h3
      have := ih h2 hg
      unfold delV at this ⊢
      rw [List.filter_cons_of_pos (by simpa using he)]
      simp only [List.map_cons, List.sum_cons]
      omega
theorem del_none {vs : List Vol} {nm : List UInt8} (h : getV vs nm = none) : delV vs nm = vs := by
  unfold delV
  rw [List.filter_eq_self]
  intro x hx
  simpa using getV_none.1 h x hx
theorem del_length {vs : List Vol} (h : sortedV vs) {v : Vol} (hv : getV vs v.nm = some v) : (delV vs v.nm).length + 1 = vs.length := by
  have := del_sum (fun _ => 1) h hv
  have hc : ∀ l : List Vol, (l.map fun _ => (1 : Int)).sum = l.length := by
    intro l
    induction l with
    | nil => rfl
    | cons a r ih => simp only [List.map_cons, List.sum_cons, List.length_cons, ih]; omega
  rw [hc, hc] at this
  omega
theorem put_length {vs : List Vol} (h : sortedV vs) {v w : Vol} (hv : getV vs v.nm = some w) : (putV vs v).length = vs.length := by
  obtain ⟨h1, h2⟩ := getV_mem hv
  have := del_length h (v := w) (by rw [h2]; exact hv)
  unfold putV
  rw [length_insV, ← h2]
  omega

/-! ### Counts -/
def cntsV (N : Nat) (vs : List Vol) : List Int := vs.foldl (fun C v => chgL C v.l 1) (List.replicate N 0)
def cntV (vs : List Vol) (i : Nat) : Int := (vs.map fun v => cnt v.l i).sum
theorem cntsV_take (N : Nat) (vs : List Vol) (k : Nat) (h : k < vs.length) : cntsV N (vs.take (k + 1)) = chgL (cntsV N (vs.take k)) vs[k].l 1 := by
  unfold cntsV
  rw [List.take_succ_eq_append_getElem h, List.foldl_append]
  rfl
theorem fold_length (vs : List Vol) : ∀ C : List Int, (vs.foldl (fun C v => chgL C v.l 1) C).length = C.length := by
  induction vs with
  | nil => intro C; rfl
  | cons v r ih => intro C; rw [List.foldl_cons, ih, chgL_length]
theorem cntsV_length (N : Nat) (vs : List Vol) : (cntsV N vs).length = N := by simp [cntsV, fold_length]
theorem cntsV_get (N : Nat) (vs : List Vol) (hp : ∀ v ∈ vs, permB N v.l = true) (i : Nat) (hi : i < N) : (cntsV N vs).getD i 0 = cntV vs i := by
  have h : ∀ (vs : List Vol) (C : List Int), C.length = N → (∀ v ∈ vs, permB N v.l = true) → (vs.foldl (fun C v => chgL C v.l 1) C).getD i 0 = C.getD i 0 + cntV vs i := by
    intro vs
    induction vs with
    | nil => intro C _ _; simp [cntV]
    | cons v r ih =>
      intro C hC hp
      rw [List.foldl_cons, ih (chgL C v.l 1) (by rw [chgL_length, hC]) fun w hw => hp w (by simp [hw]), chgL_get v.l 1 C (by rw [hC]; exact hp v (by simp)) i (by omega)]
      simp only [cntV, List.map_cons, List.sum_cons]
      omega
  have := h vs (List.replicate N 0) (by simp) hp
  unfold cntsV
  rw [this]
  have h0 : (List.replicate N (0 : Int)).getD i 0 = 0 := by
    rw [List.getD_eq_getElem?_getD, List.getElem?_replicate]
    split <;> rfl
  omega
theorem cntV_bound (vs : List Vol) (i : Nat) (M : Nat) (h : ∀ v ∈ vs, v.l.length ≤ M) : 0 ≤ cntV vs i ∧ cntV vs i ≤ M * vs.length := by
  induction vs with
  | nil => simp [cntV]
  | cons v r ih =>
    have h1 := ih fun w hw => h w (by simp [hw])
    have h2 := cnt_bound v.l i
    have h3 := h v (by simp)
    simp only [cntV, List.map_cons, List.sum_cons, List.length_cons] at h1 ⊢
    rw [show ((r.length + 1 : Nat) : Int) = r.length + 1 by omega, Int.mul_add]
    omega
theorem cntsV_range (N : Nat) (vs : List Vol) (hp : ∀ v ∈ vs, permB N v.l = true) (h : ∀ v ∈ vs, v.l.length ≤ 65536) (hl : vs.length ≤ 32) : inR 0 2097152 (cntsV N vs) := by
  refine inR_get.2 fun i hi => ?_
  rw [cntsV_length] at hi
  rw [cntsV_get N vs hp i hi]
  have := cntV_bound vs i 65536 h
  omega
theorem cntsV_ext {N : Nat} {vs : List Vol} {C : List Int} (hp : ∀ v ∈ vs, permB N v.l = true) (hC : C.length = N) (h : ∀ i, i < N → C.getD i 0 = cntV vs i) : C = cntsV N vs :=
  counts_ext (by rw [cntsV_length, hC]) fun i hi => by rw [h i (by omega), cntsV_get N vs hp i (by omega)]
theorem cntV_put {vs : List Vol} (h : sortedV vs) (v : Vol) (i : Nat) : cntV (putV vs v) i = cnt v.l i + cntV (delV vs v.nm) i := sum_insV _ _ _
theorem cntV_del {vs : List Vol} (h : sortedV vs) {v : Vol} (hv : getV vs v.nm = some v) (i : Nat) : cntV (delV vs v.nm) i + cnt v.l i = cntV vs i := del_sum (fun v => cnt v.l i) h hv

/-! ### Families -/
structure Vol.ok (N : Nat) (v : Vol) : Prop where
  name : nameB v.nm = true
  n1 : 1 ≤ v.n
  n2 : v.n ≤ 65536
  r0 : 0 ≤ v.r
  r1 : v.r ≤ v.n
  valid : validB v.l = true
  norm : normB v.l = true
  ins : inside v.l v.n
  perm : permB N v.l = true
theorem Vol.ok.short {N : Nat} {v : Vol} (h : v.ok N) : v.l.length ≤ 65536 ∧ (v.l.length : Int) ≤ v.n := by
  refine ⟨valid_short h.valid, ?_⟩
  have := inside_length v.l v.n 0 (by have := h.n1; omega) h.ins h.valid
  omega
structure Fam.ok (F : Fam) : Prop where
  hN : F.N ≤ 65536
  sorted : sortedV F.vs
  few : F.vs.length ≤ 32
  vol : ∀ v ∈ F.vs, v.ok F.N
def Fam.C (F : Fam) : List Int := cntsV F.N F.vs
theorem Fam.C_length (F : Fam) : F.C.length = F.N := cntsV_length _ _
theorem Fam.ok.get {F : Fam} (h : F.ok) (i : Nat) (hi : i < F.N) : F.C.getD i 0 = cntV F.vs i := cntsV_get _ _ (fun v hv => (h.vol v hv).perm) i hi
theorem Fam.ok.range {F : Fam} (h : F.ok) : inR 0 2097152 F.C := cntsV_range _ _ (fun v hv => (h.vol v hv).perm) (fun v hv => (h.vol v hv).short.1) h.few
def zeroF : Fam := ⟨0, []⟩
theorem zeroF_ok : zeroF.ok := ⟨Nat.zero_le _, List.Pairwise.nil, Nat.zero_le _, by simp [zeroF]⟩
/-- What is free in G, but not in F. -/
def freedF (F G : Fam) : List E := runsL (picks (freeB F.C G.C) F.N)
def inB (p n m : Int) : Bool := decide (0 ≤ p ∧ 0 ≤ n ∧ p ≤ m ∧ n ≤ m - p)
theorem inB_iff (p n m : Int) : inB p n m = true ↔ 0 ≤ p ∧ 0 ≤ n ∧ p ≤ m ∧ n ≤ m - p := decide_eq_true_iff
def newF (N : Int) : Fam × Int := if 0 ≤ N ∧ N ≤ 65536 then (⟨N.toNat, []⟩, 0) else (zeroF, 1)
def numB (n r : Int) : Bool := decide (1 ≤ n ∧ n ≤ 65536 ∧ 0 ≤ r ∧ r ≤ n)
def createF (F : Fam) (nm : List UInt8) (n r : Int) : Fam × Int :=
  if (nameB nm && numB n r) = false then (zeroF, 1)
  else if (getV F.vs nm).isSome then (zeroF, 10)
  else if 32 ≤ F.vs.length then (zeroF, 7)
  else (⟨F.N, putV F.vs ⟨nm, n, r, []⟩⟩, 0)
def cloneF (F : Fam) (nm other : List UInt8) : Fam × Int := match getV F.vs nm with
  | none => (zeroF, 9)
  | some v =>
    if nameB other = false then (zeroF, 1)
    else if (getV F.vs other).isSome then (zeroF, 10)
    else if 32 ≤ F.vs.length then (zeroF, 7)
    else (⟨F.N, putV F.vs ⟨other, v.n, 0, v.l⟩⟩, 0)
def deleteF (F : Fam) (nm : List UInt8) : Fam × List E × Int := match getV F.vs nm with
  | none => (zeroF, [], 9)
  | some _ => (⟨F.N, delV F.vs nm⟩, freedF F ⟨F.N, delV F.vs nm⟩, 0)
def Vol.set (v : Vol) (l : List E) : Vol := ⟨v.nm, v.n, v.r, l⟩
def Fam.with (F : Fam) (v : Vol) : Fam := ⟨F.N, putV F.vs v⟩
def slotB (N : Nat) (x : E) : Bool := decide (1 ≤ x.n ∧ 0 ≤ x.s ∧ x.s + x.n ≤ N)
def assignF (F : Fam) (nm : List UInt8) (x : E) : Fam × List E × Int := match getV F.vs nm with
  | none => (zeroF, [], 9)
  | some v => if (inB x.a x.n v.n && slotB F.N x) = false then (zeroF, [], 2) else (F.with (v.set (putL v.l x)), freedF F (F.with (v.set (putL v.l x))), 0)
def unmapF (F : Fam) (nm : List UInt8) (p n : Int) : Fam × List E × Int := match getV F.vs nm with
  | none => (zeroF, [], 9)
  | some v => if inB p n v.n = false then (zeroF, [], 2) else (F.with (v.set (cutL v.l p n)), freedF F (F.with (v.set (cutL v.l p n))), 0)
def lookupF (F : Fam) (nm : List UInt8) (p : Int) : Int × Bool × Int := match getV F.vs nm with
  | none => (0, false, 9)
  | some v => if inB p 1 v.n = false then (0, false, 2) else (findS v.l p, findB v.l p, 0)
def rangeF (F : Fam) (nm : List UInt8) (p n : Int) : List E × Int := match getV F.vs nm with
  | none => ([], 9)
  | some v => if inB p n v.n = false then ([], 2) else (inL v.l p n, 0)
structure Info where
  nm : List UInt8
  n : Int
  r : Int
  m : Int
  x : Int
def infoV (C : List Int) (v : Vol) : Info := ⟨v.nm, v.n, v.r, lenL v.l, singleC C v.l⟩
def infoF (F : Fam) (nm : List UInt8) : Info × Int := match getV F.vs nm with
  | none => (⟨[], 0, 0, 0, 0⟩, 9)
  | some v => (infoV F.C v, 0)

/-! ### A family stays sound -/
theorem ok_new {N : Int} (h : (newF N).2 = 0) : (newF N).1.ok := by
  unfold newF at *
  split
  · rename_i hN
    exact ⟨by simp only; omega, List.Pairwise.nil, by simp, by simp⟩
  · exact zeroF_ok
theorem Fam.ok.with {F : Fam} (h : F.ok) {v w : Vol} (hv : v.ok F.N) (hw : getV F.vs v.nm = some w) : (F.with v).ok :=
  ⟨h.hN, sorted_put h.sorted, by show (putV _ _).length ≤ 32; rw [put_length h.sorted hw]; exact h.few, fun u hu => by
    rcases mem_putV.1 hu with rfl | hu
    · exact hv
    · exact h.vol u hu.1⟩
theorem Fam.ok.add {F : Fam} (h : F.ok) {v : Vol} (hv : v.ok F.N) (hw : getV F.vs v.nm = none) (hl : F.vs.length < 32) : (⟨F.N, putV F.vs v⟩ : Fam).ok :=
  ⟨h.hN, sorted_put h.sorted, by show (insV _ _).length ≤ 32; rw [length_insV, del_none hw]; omega, fun u hu => by
    rcases mem_putV.1 hu with rfl | hu
    · exact hv
    · exact h.vol u hu.1⟩
theorem Fam.ok.del {F : Fam} (h : F.ok) (nm : List UInt8) : (⟨F.N, delV F.vs nm⟩ : Fam).ok :=
  ⟨h.hN, sorted_del h.sorted _, Nat.le_trans (List.length_filter_le _ _) h.few, fun u hu => h.vol u (mem_delV.1 hu).1⟩
theorem Vol.ok.put {N : Nat} {v : Vol} (h : v.ok N) (hN : N ≤ 65536) {x : E} (hx : (inB x.a x.n v.n && slotB N x) = true) : okB x = true ∧ (v.set (putL v.l x)).ok N := by
  rw [Bool.and_eq_true, inB_iff] at hx
  obtain ⟨⟨h1, h2, h3, h4⟩, hs⟩ := hx
  have hs : 1 ≤ x.n ∧ 0 ≤ x.s ∧ x.s + x.n ≤ N := of_decide_eq_true hs
  have hn := h.n2
  have hok : okB x = true := (okB_iff x).2 ⟨hs.1, h1, hs.2.1, by omega, by omega⟩
  exact ⟨hok, h.name, h.n1, h.n2, h.r0, h.r1, putL_valid v.l x hok h.valid, norm_put _ _, inside_put hok (show x.a + x.n ≤ v.n by omega) h.valid h.ins, perm_put h.perm hs⟩
theorem Vol.ok.cut {N : Nat} {v : Vol} (h : v.ok N) {p n : Int} (hp : inB p n v.n = true) : withinB p n 65536 = true ∧ (v.set (cutL v.l p n)).ok N := by
  obtain ⟨h1, h2, h3, h4⟩ := (inB_iff _ _ _).1 hp
  have hn := h.n2
  exact ⟨decide_eq_true (by omega), h.name, h.n1, h.n2, h.r0, h.r1, cutL_valid v.l p n h2 h.valid, norm_cut _ _ _ h2 h.valid, inside_cut _ _ h2 h.valid h.ins, perm_cut _ _ h2 h.valid h.perm⟩
theorem ok_create {F : Fam} (h : F.ok) (nm : List UInt8) (n r : Int) : (createF F nm n r).1.ok := by
  unfold createF
  split
  · exact zeroF_ok
  · rename_i h1
    split
    · exact zeroF_ok
    · rename_i h2
      split
      · exact zeroF_ok
      · rename_i h3
        simp only [Bool.not_eq_false, Bool.and_eq_true] at h1
        obtain ⟨q1, q2, q3, q4⟩ : 1 ≤ n ∧ n ≤ 65536 ∧ 0 ≤ r ∧ r ≤ n := of_decide_eq_true h1.2
        refine h.add (v := ⟨nm, n, r, []⟩) ⟨h1.1, q1, q2, q3, q4, rfl, rfl, fun x hx => by simp at hx, rfl⟩ (by simpa using h2) (by omega)
theorem ok_clone {F : Fam} (h : F.ok) (nm other : List UInt8) : (cloneF F nm other).1.ok := by
  unfold cloneF
  split
  · exact zeroF_ok
  · rename_i v hv
    have hk := h.vol v (getV_mem hv).1
    split
    · exact zeroF_ok
    · rename_i h1
      split
      · exact zeroF_ok
      · rename_i h2
        split
        · exact zeroF_ok
        · rename_i h3
          exact h.add (v := ⟨other, v.n, 0, v.l⟩) ⟨by simpa using h1, hk.n1, hk.n2, Int.le_refl _, by have := hk.n1; show (0 : Int) ≤ v.n; omega, hk.valid, hk.norm, hk.ins, hk.perm⟩ (by simpa using h2) (by omega)
theorem ok_delete {F : Fam} (h : F.ok) (nm : List UInt8) : (deleteF F nm).1.ok := by
  unfold deleteF
  split
  · exact zeroF_ok
  · exact h.del nm
theorem ok_assign {F : Fam} (h : F.ok) (nm : List UInt8) (x : E) : (assignF F nm x).1.ok := by
  unfold assignF
  split
  · exact zeroF_ok
  · rename_i v hv
    obtain ⟨h1, h2⟩ := getV_mem hv
    split
    · exact zeroF_ok
    · rename_i hx
      exact h.with ((h.vol v h1).put h.hN (by simpa using hx)).2 (w := v) (by show getV F.vs v.nm = _; rw [h2]; exact hv)
theorem ok_unmap {F : Fam} (h : F.ok) (nm : List UInt8) (p n : Int) : (unmapF F nm p n).1.ok := by
  unfold unmapF
  split
  · exact zeroF_ok
  · rename_i v hv
    obtain ⟨h1, h2⟩ := getV_mem hv
    split
    · exact zeroF_ok
    · rename_i hx
      exact h.with ((h.vol v h1).cut (by simpa using hx)).2 (w := v) (by show getV F.vs v.nm = _; rw [h2]; exact hv)

/-! ### What the counts become -/
theorem chg_delete {F : Fam} (h : F.ok) {v : Vol} (hv : getV F.vs v.nm = some v) : chgL F.C v.l (-1) = (⟨F.N, delV F.vs v.nm⟩ : Fam).C := by
  have hk := h.vol v (getV_mem hv).1
  refine cntsV_ext (fun u hu => (h.vol u (mem_delV.1 hu).1).perm) (by rw [chgL_length, F.C_length]) fun i hi => ?_
  rw [chgL_get v.l (-1) _ (by rw [F.C_length]; exact hk.perm) i (by rw [F.C_length]; exact hi), h.get i hi, ← cntV_del h.sorted hv i]
  show _ = cntV (delV F.vs v.nm) i
  omega
theorem freed_delete {F : Fam} (h : F.ok) {v : Vol} (hv : getV F.vs v.nm = some v) : runsL (freedL (chgL F.C v.l (-1)) v.l) = freedF F ⟨F.N, delV F.vs v.nm⟩ := by
  have hk := h.vol v (getV_mem hv).1
  rw [freed_is F.C v.l (by rw [F.C_length]; exact h.hN) (by rw [F.C_length]; exact hk.perm) fun i hi => (inR_get.1 h.range i hi).1, chg_delete h hv, F.C_length]
  rfl
theorem chg_clone {F : Fam} (h : F.ok) {v : Vol} (hv : v ∈ F.vs) {u : Vol} (hu : getV F.vs u.nm = none) (hl : u.l = v.l) : chgL F.C v.l 1 = (⟨F.N, putV F.vs u⟩ : Fam).C := by
  have hk := h.vol v hv
  refine cntsV_ext (fun w hw => ?_) (by rw [chgL_length, F.C_length]) fun i hi => ?_
  · rcases mem_putV.1 hw with rfl | hw
    · rw [hl]; exact hk.perm
    · exact (h.vol w hw.1).perm
  · rw [chgL_get v.l 1 _ (by rw [F.C_length]; exact hk.perm) i (by rw [F.C_length]; exact hi), h.get i hi, cntV_put h.sorted, del_none hu, hl]
    omega
theorem chg_create {F : Fam} (h : F.ok) {u : Vol} (hu : getV F.vs u.nm = none) (hl : u.l = []) : F.C = (⟨F.N, putV F.vs u⟩ : Fam).C := by
  refine cntsV_ext (fun w hw => ?_) F.C_length fun i hi => ?_
  · rcases mem_putV.1 hw with rfl | hw
    · rw [hl]; rfl
    · exact (h.vol w hw.1).perm
  · rw [h.get i hi, cntV_put h.sorted, del_none hu, hl]
    simp [cnt]
section
variable {F : Fam} {v : Vol} {l' : List E}
theorem cntV_with (h : F.ok) (hv : getV F.vs v.nm = some v) (i : Nat) : cntV (F.with (v.set l')).vs i + cnt v.l i = cntV F.vs i + cnt l' i := by
  have h1 := cntV_put h.sorted (v.set l') i
  have h2 := cntV_del h.sorted hv i
  show cntV (putV F.vs (v.set l')) i + _ = _
  rw [h1, ← h2]
  show cnt l' i + cntV (delV F.vs v.nm) i + _ = _
  omega
theorem perm_with (h : F.ok) (hp : permB F.N l' = true) : ∀ w ∈ (F.with (v.set l')).vs, permB F.N w.l = true := fun w hw => by
  rcases mem_putV.1 hw with rfl | hw
  · exact hp
  · exact (h.vol w hw.1).perm
/-- The counts with an extent added, and the old mapping dropped. -/
theorem chg_with (h : F.ok) (hv : getV F.vs v.nm = some v) {C : List Int} {old : List E} (hC : C.length = F.N) (hold : permB F.N old = true) (hp : permB F.N l' = true) (hi : ∀ i, i < F.N → C.getD i 0 - cnt old i = cntV F.vs i + cnt l' i - cnt v.l i) : chgL C old (-1) = (F.with (v.set l')).C := by
  refine cntsV_ext (perm_with h hp) (by rw [chgL_length, hC]; rfl) fun i hi' => ?_
  have hi' : i < F.N := hi'
  rw [chgL_get old (-1) C (by rw [hC]; exact hold) i (by omega)]
  have := hi i hi'
  have := cntV_with h hv (l' := l') i
  omega
theorem freed_with (h : F.ok) {C : List Int} {old : List E} (hC : C.length = F.N) (hold : permB F.N old = true) (hc : chgL C old (-1) = (F.with (v.set l')).C) (h0 : ∀ i, i < F.N → 0 ≤ C.getD i 0)
    (hz : ∀ i, i < F.N → (F.with (v.set l')).C.getD i 0 = 0 → (0 < C.getD i 0 ↔ 0 < F.C.getD i 0)) : runsL (freedL (chgL C old (-1)) old) = freedF F (F.with (v.set l')) := by
  rw [freed_is C old (by rw [hC]; exact h.hN) (by rw [hC]; exact hold) (fun i hi => h0 i (by omega)), hc, hC]
  unfold freedF
  rw [picks_congr _ (freeB F.C (F.with (v.set l')).C) F.N fun i hi => ?_]
  unfold freeB
  by_cases hz' : (F.with (v.set l')).C.getD i 0 = 0
  · have := hz i hi hz'
    by_cases h1 : 0 < C.getD i 0
    · rw [decide_eq_true h1, decide_eq_true (this.1 h1)]
    · rw [decide_eq_false h1, decide_eq_false fun h2 => h1 (this.2 h2)]
  · rw [decide_eq_false hz']; rfl
end
theorem chg_unmap {F : Fam} (h : F.ok) {v : Vol} (hv : getV F.vs v.nm = some v) {p n : Int} (hp : inB p n v.n = true) :
    permB F.N (inL v.l p n) = true ∧ chgL F.C (inL v.l p n) (-1) = (F.with (v.set (cutL v.l p n))).C ∧ runsL (freedL (chgL F.C (inL v.l p n) (-1)) (inL v.l p n)) = freedF F (F.with (v.set (cutL v.l p n))) := by
  have hk := h.vol v (getV_mem hv).1
  obtain ⟨hw, hk'⟩ := hk.cut hp
  have h1 := perm_in p n hk.perm
  have h2 := chg_with h hv (l' := cutL v.l p n) F.C_length h1 hk'.perm fun i hi => by
    rw [h.get i hi, ← cnt_cut v.l p n i hw hk.valid]
    omega
  exact ⟨h1, h2, freed_with h F.C_length h1 h2 (fun i hi => (inR_get.1 h.range i (by rw [F.C_length]; exact hi)).1) fun i hi _ => Iff.rfl⟩
theorem chg_assign {F : Fam} (h : F.ok) {v : Vol} (hv : getV F.vs v.nm = some v) {x : E} (hx : (inB x.a x.n v.n && slotB F.N x) = true) :
    permB F.N [x] = true ∧ permB F.N (inL v.l x.a x.n) = true ∧ chgL (chgL F.C [x] 1) (inL v.l x.a x.n) (-1) = (F.with (v.set (putL v.l x))).C ∧
      runsL (freedL (chgL (chgL F.C [x] 1) (inL v.l x.a x.n) (-1)) (inL v.l x.a x.n)) = freedF F (F.with (v.set (putL v.l x))) := by
  have hk := h.vol v (getV_mem hv).1
  obtain ⟨hok, hk'⟩ := hk.put h.hN hx
  have hs : 1 ≤ x.n ∧ 0 ≤ x.s ∧ x.s + x.n ≤ F.N := of_decide_eq_true (Bool.and_eq_true _ _ ▸ hx).2
  have h0 : permB F.N [x] = true := (permB_iff _ _).2 fun y hy => by simp at hy; rw [hy]; exact hs
  have h1 := perm_in x.a x.n hk.perm
  have hl : (chgL F.C [x] 1).length = F.N := by rw [chgL_length, F.C_length]
  have hg : ∀ i, i < F.N → (chgL F.C [x] 1).getD i 0 = cntV F.vs i + cntX x i := fun i hi => by
    rw [chgL_get [x] 1 _ (by rw [F.C_length]; exact h0) i (by rw [F.C_length]; exact hi), h.get i hi, cnt_one]
    omega
  have hX : ∀ i, 0 ≤ cntX x i := fun i => by unfold cntX; split <;> omega
  have h2 := chg_with h hv (l' := putL v.l x) hl h1 hk'.perm fun i hi => by
    rw [hg i hi]
    have := cnt_put v.l x i hok hk.valid
    omega
  refine ⟨h0, h1, h2, freed_with h hl h1 h2 (fun i hi => ?_) fun i hi hz => ?_⟩
  · rw [hg i hi]
    have := (cntV_bound F.vs i 65536 fun v hv => (h.vol v hv).short.1).1
    have := hX i
    omega
  · rw [hg i hi, h.get i hi]
    have hz' : cntV (F.with (v.set (putL v.l x))).vs i = 0 := by
      rw [← hz]
      exact (cntsV_get _ _ (perm_with h hk'.perm) i hi).symm
    have q1 := cntV_with h hv (l' := putL v.l x) i
    have q2 := cnt_put v.l x i hok hk.valid
    have q3 := (cntV_bound (F.with (v.set (putL v.l x))).vs i 65536 fun w hw => by
      rcases mem_putV.1 hw with rfl | hw
      · exact hk'.short.1
      · exact (h.vol w hw.1).short.1).1
    have q4 : 0 ≤ cntV (delV F.vs v.nm) i := (cntV_bound _ i 65536 fun w hw => (h.vol w (mem_delV.1 hw).1).short.1).1
    have q5 := cntV_put h.sorted (v.set (putL v.l x)) i
    have q6 : cnt (putL v.l x) i = 0 := by
      have := (cnt_bound (putL v.l x) i).1
      have q7 : cntV (F.with (v.set (putL v.l x))).vs i = cnt (putL v.l x) i + cntV (delV F.vs v.nm) i := q5
      omega
    have q8 : cntX x i = 0 := by
      have q9 : cnt (partsL v.l 0 x.a ++ ([x] ++ partsL v.l (x.a + x.n) 65536)) i = 0 := by
        refine (cnt_join _ i fun y hy => ?_).symm.trans q6
        simp only [List.mem_append, List.mem_singleton] at hy
        rcases hy with hy | rfl | hy
        · exact partsL_ok v.l _ _ (validB_ok hk.valid) y hy
        · exact hok
        · exact partsL_ok v.l _ _ (validB_ok hk.valid) y hy
      rw [cnt_append, cnt_append, cnt_one] at q9
      have := (cnt_bound (partsL v.l 0 x.a) i).1
      have := (cnt_bound (partsL v.l (x.a + x.n) 65536) i).1
      have := hX i
      omega
    omega
end Go.Proofs.Ytnfaciageadlkaa
