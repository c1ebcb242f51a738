/-
  The world after more memory was made: 'w.next u'. A region whose operations read old memory and call functions that only make memory: one walk of the text's order serves every order, and a forced tail follows it.
  Rows of bytes: what a call owns, and what it can read.
  Conditions: as each theorem says.
-/
import Derived.WalkKit
import Derived.WalkSpells
import Derived.WalkLawsBesides
import Derived.Deep.Quiet
import Derived.BigQuiet
import Derived.StillTailTactics
import Derived.Test.YtbiecglooagmmaaRows
import Derived.Laws.IdiomStrings
import Derived.OpenShut
namespace Go
set_option linter.unusedSimpArgs false
set_option linter.unusedVariables false
set_option maxRecDepth 100000
theorem RowKit.Hid.o {p : Prop} (h : RowKit.Hid p) : p := h
open Go.RowKit

open Classical in
/-- The world u where it is w with more blocks behind it (all of w's blocks as they were); else w itself. -/
noncomputable def World.next (w u : World) : World := if Below w.heap.size w u then u else w

theorem World.below_next (w u : World) : Below w.heap.size w (w.next u) := by
  unfold World.next
  split
  · assumption
  · exact Below.refl _ _
theorem World.next_of {w w' : World} (h : Below w.heap.size w w') : w.next w' = w' := by
  unfold World.next
  rw [if_pos h]
theorem World.is_next {w w' : World} (h : Below w.heap.size w w') : ∃ u, w' = w.next u := ⟨w', (World.next_of h).symm⟩
theorem World.next_self (w : World) : w.next w = w := World.next_of (Below.refl _ _)
section
variable (w u : World) (a : Addr)
theorem World.size_next : w.heap.size ≤ (w.next u).heap.size := (World.below_next w u).size
theorem World.cell?_next_lt (h : a.block < w.heap.size) : (w.next u).cell? a = w.cell? a := (World.below_next w u).cell h
theorem World.frozen?_next_lt (h : a.block < w.heap.size) : (w.next u).frozen? a = w.frozen? a := (World.below_next w u).frozen h
@[simp, go_sem] theorem World.cell?_next (h : (w.cell? a).isSome = true) : (w.next u).cell? a = w.cell? a := by
  obtain ⟨v, hv⟩ := Option.isSome_iff_exists.1 h
  exact World.cell?_next_lt _ _ _ (World.block_lt_of_cell? w a hv)
@[simp, go_sem] theorem World.frozen?_next (h : (w.cell? a).isSome = true) : (w.next u).frozen? a = w.frozen? a := by
  obtain ⟨v, hv⟩ := Option.isSome_iff_exists.1 h
  exact World.frozen?_next_lt _ _ _ (World.block_lt_of_cell? w a hv)
@[simp, go_sem] theorem World.tape_next : (w.next u).tape = w.tape := (World.below_next w u).tape
@[simp, go_sem] theorem World.cell?_alloc_is (o : Obj) (h : (w.cell? a).isSome = true) : (w.alloc o).cell? a = w.cell? a := by
  obtain ⟨v, hv⟩ := Option.isSome_iff_exists.1 h
  exact World.cell?_alloc_lt _ _ _ (World.block_lt_of_cell? w a hv)
@[simp, go_sem] theorem World.frozen?_alloc_is (o : Obj) (h : (w.cell? a).isSome = true) : (w.alloc o).frozen? a = w.frozen? a := by
  obtain ⟨v, hv⟩ := Option.isSome_iff_exists.1 h
  exact World.frozen?_alloc_old _ _ _ (Nat.ne_of_lt (World.block_lt_of_cell? w a hv))
theorem World.heap_next (k : Nat) (h : k < w.heap.size) : (w.next u).heap[k]? = w.heap[k]? := (World.below_next w u).block k h
end
theorem RowKit.Below.next {B : Nat} {a w : World} (h : Below B a w) (hB : B ≤ w.heap.size) (u : World) : Below B a (w.next u) :=
  h.trans ((World.below_next w u).mono hB)
/-- A cell that is there stays. -/
theorem RowKit.Below.keep {w w' : World} (h : Below w.heap.size w w') {a : Addr} {v : Value} (hc : w.cell? a = some v) : w'.cell? a = some v := by
  rw [h.cell (World.block_lt_of_cell? w a hc)]; exact hc
theorem RowKit.Below.keepF {w w' : World} (h : Below w.heap.size w w') {a : Addr} {v : Value} (hc : w.cell? a = some v) {b : Bool} (hf : w.frozen? a = b) : w'.frozen? a = b := by
  rw [h.frozen (World.block_lt_of_cell? w a hc)]; exact hf
/-- Step upon step. -/
theorem RowKit.Below.step {B : Nat} {a w w' : World} (h : Below B a w) (hB : B ≤ w.heap.size) (h' : Below w.heap.size w w') : Below B a w' := h.trans (h'.mono hB)
/-- From one's own beginning. -/
theorem RowKit.Below.on {a w w' : World} (h : Below a.heap.size a w) (h' : Below w.heap.size w w') : Below a.heap.size a w' := h.trans (h'.mono h.size)
theorem RowKit.Below.onAlloc {a w : World} (h : Below a.heap.size a w) (o : Obj) : Below a.heap.size a (w.alloc o) := h.alloc h.size o
theorem RowKit.Below.onNext {a w : World} (h : Below a.heap.size a w) (u : World) : Below a.heap.size a (w.next u) := h.on (World.below_next w u)
theorem RowKit.Below.grow {w W w1 : World} {row : Option Nat} (h : Below w.heap.size w W) (hg : W.grownBy w1 row) : w.grownBy w1 row :=
  ⟨hg.os.trans h.os, hg.tape.trans h.tape, hg.output.trans h.output, Nat.le_trans h.size hg.size, fun k hk hne => (hg.block k (Nat.lt_of_lt_of_le hk h.size) hne).trans (h.block k hk)⟩
/-- A world where one row was written, seen from below that row. -/
theorem RowKit.Below.onGrow {a w w' : World} {row : Option Nat} (h : Below a.heap.size a w) (hg : w.grownBy w' row) (hr : ∀ k, row = some k → a.heap.size ≤ k) : Below a.heap.size a w' :=
  h.grown hg h.size hr
/-- What comes behind a world that comes behind w comes behind w. -/
theorem World.next_next (w u v : World) : ∃ x, (w.next u).next v = w.next x :=
  World.is_next ((World.below_next w u).next (World.size_next w u) v)
theorem World.drew_next (w : World) : ∃ x, w.drew = w.next x := World.is_next ((Below.refl _ _).drew)

/-- Own rows stay behind a next world. -/
theorem World.ownsRow.next {w : World} {base : Nat} {e : TypeId} {size : Nat} {v : Value} {n : Nat} {xs : List Value} (h : w.ownsRow base e size v n xs) (u : World) : (w.next u).ownsRow base e size v n xs := by
  have hb := World.below_next w u
  exact h.kept (row := none) ⟨hb.os, hb.tape, hb.output, hb.size, fun k hk _ => hb.block k hk⟩ (by cases hv : v.ownBlock <;> simp)

/-! ### The region -/
section
variable {P : Program} {w : World}
/-- A region that draws its order, every operation of it yielding one value in whatever world behind 'w': one walk of the text's order. -/
theorem wp_region_next {id : Nat} {Q : Exit → Act → World → Prop} {a : Act} {l : List Oper} (hm : P.follows .mixedOrders = true) (hB : Region.lexB .any l.toArray = true)
    (h : wpQuiet P l.toArray (fun w' => ∃ n, w' = w.next n) (fun a' => ∀ w', (∃ n, w' = w.next n) → Q .normal a' w') l a) : (Code.region id l.toArray true).wp P Q a w :=
  wp_region_quiet (C := fun w' => ∃ n, w' = w.next n) hm hB (World.drew_next w) h
/-- A region that does not draw its order. -/
theorem wp_region_next_plain {id : Nat} {Q : Exit → Act → World → Prop} {a : Act} {l : List Oper}
    (h : wpQuiet P l.toArray (fun w' => ∃ n, w' = w.next n) (fun a' => ∀ w', (∃ n, w' = w.next n) → Q .normal a' w') l a) : (Code.region id l.toArray false).wp P Q a w := by
  refine wp_region_lit ?_
  have key : ∀ (l' : List Oper) (a : Act) (w1 : World), (∃ n, w1 = w.next n) → wpQuiet P l.toArray (fun w' => ∃ n, w' = w.next n) (fun a' => ∀ w', (∃ n, w' = w.next n) → Q .normal a' w') l' a → wpList P l.toArray Q l' a w1 := by
    intro l'
    induction l' with
    | nil => intro a w1 hw1 h; exact h w1 hw1
    | cons o rest ih =>
      intro a w1 hw1 h
      refine wpList_step fun K hK => ?_
      unfold wpQuiet at h
      split
      · rename_i hw
        rw [if_pos hw] at h
        exact Oper.wp_of_quiet hw1 (fun a' w' hw' hq => hK _ _ (ih a' w' hw' hq)) h
      · rename_i hw
        rw [if_neg hw] at h
        exact hK _ _ (ih _ _ hw1 h)
  exact key l a w ⟨w, (World.next_self w).symm⟩ h
/-- A callee's contract met in a world behind 'w'. -/
theorem Calls.next_of {f : FuncId} {args : Array Value} {n : World} {v : Value}
    (h : Calls P f args (w.next n) fun e w' => e = .returned v ∧ Below (w.next n).heap.size (w.next n) w') : Calls P f args (w.next n) fun e w'' => e = .returned v ∧ ∃ m, w'' = w.next m :=
  h.mono fun _ _ ⟨he, hb⟩ => ⟨he, World.is_next ((World.below_next w n).trans (hb.mono (World.size_next w n)))⟩
/-- .. of a callee that leaves the world as it was. -/
theorem Calls.next_of_same {f : FuncId} {args : Array Value} {n : World} {v : Value}
    (h : Calls P f args (w.next n) fun e w' => e = .returned v ∧ (w.next n) = w') : Calls P f args (w.next n) fun e w'' => e = .returned v ∧ ∃ m, w'' = w.next m :=
  h.mono fun _ _ ⟨he, hm⟩ => ⟨he, n, hm.symm⟩
end

/-! ### The region with a forced tail -/
section
variable {P : Program} {ops : Array Oper} {md : Region.Mode} {C : World → Prop}
def wpAnyLQ (P : Program) (md : Region.Mode) (ops : Array Oper) (C : World → Prop) (n : Nat) (L : Array Bool → Act → Prop) : Nat → Array Bool → Act → Prop
  | 0, listed, a => L listed a
  | f + 1, listed, a =>
    Region.ready md ops listed ≠ [] ∧ ∀ i ∈ Region.ready md ops listed, i < n ∧ qOp P ops C i (wpAnyLQ P md ops C n L f (listed.setIfInBounds i true)) a
theorem wpAny_of_headQ {n g : Nat} {L : Array Bool → Act → Prop} {Q' : Exit → Act → World → Prop} (hL : ∀ listed a w, C w → L listed a → wpAny P md ops Q' g listed a w) :
    ∀ (f : Nat) (listed : Array Bool) (a : Act) (w : World), C w → wpAnyLQ P md ops C n L f listed a → wpAny P md ops Q' (f + g) listed a w
  | 0, listed, a, w, hw, h => by rw [Nat.zero_add]; exact hL _ _ _ hw h
  | f + 1, listed, a, w, hw, h => by
    rw [show f + 1 + g = (f + g) + 1 by omega]
    exact ⟨fun h0 => absurd h0 h.1, fun i hi => wpOp_of_qOp hw (fun a' w' hw' h' => wpAny_of_headQ hL f _ a' w' hw' h') (h.2 i hi).2⟩
theorem wpAnyLQ_first {n i : Nat} {oi : Oper} {v : Value} {L : Array Bool → Act → Prop} (hi : ops[i]? = some oi) (hsel : ∀ (j : Nat) (o : Oper) cs b, ops[j]? = some o → o.op ≠ .select cs b)
    (hs : Region.sinkB md ops n = true) (hc : Region.chainB md ops n = true) (hn : n < ops.size) (hin : i < n)
    (hdone : ∀ listed a, L listed a → ∀ j ∈ Region.ready md ops listed, n ≤ j) :
    ∀ (f : Nat) (listed : Array Bool) (a : Act), HeadInv md ops n listed →
      (∀ j oj, ops[j]? = some oj → j ≠ i → listed.getD j true = false → (∀ e ∈ oj.after, Region.binds md e = true → e.on ≠ i) → oi.apart ops oj = true) →
      i ∈ Region.ready md ops listed → YieldsIn P ops C oi v a →
      wpAnyLQ P md ops C n L f (listed.setIfInBounds i true) (a.put oi.dst v) → wpAnyLQ P md ops C n L (f + 1) listed a := by
  intro f
  induction f with
  | zero =>
    intro listed a inv _ hr hy H
    have hun := (mem_ready.1 hr).1
    refine ⟨fun h => (by rw [h] at hr; cases hr), fun j hj => ?_⟩
    have hjn : j < n := by
      rcases Nat.lt_or_ge j n with h | h
      · exact h
      · exact absurd hj (tail_waits hs hc hn inv _ i rfl hin hun j h)
    refine ⟨hjn, ?_⟩
    by_cases hji : j = i
    · subst hji; exact hy.qOp hi H
    · have := hdone _ _ H j (ready_mono hj hji)
      omega
  | succ f ih =>
    intro listed a inv hfree hr hy H
    have hun := (mem_ready.1 hr).1
    refine ⟨fun h => (by rw [h] at hr; cases hr), fun j hj => ?_⟩
    have hjn : j < n := by
      rcases Nat.lt_or_ge j n with h | h
      · exact h
      · exact absurd hj (tail_waits hs hc hn inv _ i rfl hin hun j h)
    refine ⟨hjn, ?_⟩
    by_cases hji : j = i
    · subst hji; exact hy.qOp hi H
    · have h1 := (H.2 j (ready_mono hj hji)).2
      obtain ⟨hjun, oj, hoj, hall⟩ := mem_ready.1 hj
      have hnot : ∀ e ∈ oj.after, Region.binds md e = true → e.on ≠ i := fun e he hb heq => by
        have h1 := hall e he hb
        rw [heq, getD_both hun] at h1
        cases h1
      have h2 := qOp_put hoj (hfree j oj hoj hji hjun hnot) (fun cs b => hsel i oi cs b hi) (fun cs b => hsel j oj cs b hoj) hy h1
      have hfree' : ∀ k ok, ops[k]? = some ok → k ≠ i → (listed.setIfInBounds j true).getD k true = false →
          (∀ e ∈ ok.after, Region.binds md e = true → e.on ≠ i) → oi.apart ops ok = true := fun k ok hk hki hun hno => by
        refine hfree k ok hk hki ?_ hno
        by_cases hjk : j = k
        · subst hjk; exact hjun
        · rw [getD_set_ne true hjk] at hun; exact hun
      refine qOp_mono (fun a' h3 => ih (listed.setIfInBounds j true) a' (inv.set hj hjn) hfree' (ready_mono hr (Ne.symm hji)) h3.1 ?_) h2
      rw [Array.setIfInBounds_comm _ _ hji]
      exact h3.2
theorem wpAnyLQ_lex {n g : Nat} {Lq : Act → Prop} (hsel : Region.noSelect ops = true) (hs : Region.sinkB md ops n = true) (hc : Region.chainB md ops n = true) (hn : n < ops.size) :
    ∀ (l : List Oper) (k : Nat) (listed : Array Bool) (a : Act), (∀ j, j < l.length → l[j]? = ops[k + j]?) → k + l.length = n → HeadInv md ops n listed →
    Region.lexHead md ops g l.length k listed = true → wpQuiet P ops C Lq l a →
    wpAnyLQ P md ops C n (fun listed' a' => Region.seqB md ops g n listed' = true ∧ Lq a') l.length listed a
  | [], k, listed, a, _, hk, _, hB, h => by
    have : k = n := by simpa using hk
    subst this
    exact ⟨by simpa [Region.lexHead] using hB, h⟩
  | o :: l, k, listed, a, hl, hk, inv, hB, h => by
    have h0 : ops[k]? = some o := by simpa using (hl 0 (by simp)).symm
    simp only [List.length_cons, Region.lexHead, Bool.and_eq_true] at hB
    obtain ⟨⟨hr, hf⟩, hB'⟩ := hB
    have hkn : k < n := by simp only [List.length_cons] at hk; omega
    have hr' : k ∈ Region.ready md ops listed := by simpa using hr
    have hst : qOp P ops C k (wpQuiet P ops C Lq l) a := by unfold qOp; simp only [h0]; exact h
    obtain ⟨v, hy, hK⟩ := yieldsIn_of_qOp h0 hst
    exact wpAnyLQ_first h0 (Region.noSelect_spec hsel) hs hc hn hkn (fun listed' a' hL => seqB_ready hL.1) l.length listed a inv (Region.free_spec h0 hf) hr' hy
      (wpAnyLQ_lex hsel hs hc hn l (k + 1) _ _ (fun j hj => by have := hl (j + 1) (by simp; omega); simpa [Nat.add_assoc, Nat.add_comm 1 j] using this) (by simp only [List.length_cons] at hk; omega) (inv.set hr' hkn) hB' hK)
theorem wp_region_quiet_tail {id : Nat} {Q : Exit → Act → World → Prop} {a : Act} {w : World} {l : List Oper} (n : Nat) (hm : P.follows .mixedOrders = true) (hB : Region.lexTailB .any l.toArray n = true)
    (hC : C { w with drawn := w.drawn + 1 })
    (h : wpQuiet P l.toArray C (fun a' => ∀ w', C w' → wpList P l.toArray Q (l.drop n) a' w') (l.take n) a) : (Code.region id l.toArray true).wp P Q a w := by
  simp only [Region.lexTailB, Bool.and_eq_true, decide_eq_true_eq] at hB
  obtain ⟨⟨⟨⟨hsel, hn⟩, hs⟩, hc⟩, hlex⟩ := hB
  have hn' : n < l.length := by simpa using hn
  have htl : (l.take n).length = n := by simp; omega
  have hdl : (l.drop n).length = l.toArray.size - n := by simp
  have inv0 : HeadInv .any l.toArray n (Array.replicate l.toArray.size false) :=
    ⟨by simp, fun j oj _ hl => (by rw [getD_replicate_false] at hl; cases hl), fun t _ ht => getD_in (by simpa using ht) (getD_replicate_false _ _)⟩
  have H := wpAnyLQ_lex (C := C) (md := .any) (g := l.toArray.size - n) hsel hs hc hn (l.take n) 0 _ a (fun j hj => by
    have hj' : j < n := by rw [htl] at hj; exact hj
    simp [hj']) (by simpa using htl) inv0 (by rw [htl]; exact hlex) h
  refine wp_region_any hm ?_
  have := wpAny_of_headQ (Q' := Q) (g := l.toArray.size - n) (fun listed a' w' hw' hL => by
    have := wpAny_of_seq (md := .any) (Q' := Q) (l.drop n) n listed a' w' (fun j => by simp [List.getElem?_drop]) (by rw [hdl]; exact hL.1) (hL.2 w' hw')
    rwa [hdl] at this) _ _ _ _ hC H
  rw [htl, show n + (l.toArray.size - n) = l.toArray.size by omega] at this
  exact this
/-- The same at the class of the worlds behind 'w'. -/
theorem wp_region_next_tail {id : Nat} {Q : Exit → Act → World → Prop} {a : Act} {w : World} {l : List Oper} (n : Nat) (hm : P.follows .mixedOrders = true) (hB : Region.lexTailB .any l.toArray n = true)
    (h : wpQuiet P l.toArray (fun w' => ∃ n, w' = w.next n) (fun a' => ∀ w', (∃ n, w' = w.next n) → wpList P l.toArray Q (l.drop n) a' w') (l.take n) a) : (Code.region id l.toArray true).wp P Q a w :=
  wp_region_quiet_tail n hm hB (World.drew_next w) h
end

/-! ### append to a row of the call's own: where the new row lies -/
section
variable {P : Program} (w : World)
/-- The value behind an append lies where the old one lay, or in the block made last. -/
theorem run_append_x (base : Nat) (t ty e : TypeId) (i : TypeInfo) (z : Value) (size bytes : Nat) (ht : P.underlying t = some (.slice e)) (hi : P.info? e = some i) (hz : i.zero = some z)
    (hsize : i.size = size) (hby : i.bytes = bytes) (hzs : z.cells.size = size) (hsz : 0 < size)
    (v : Value) (n : Nat) (xs : List Value) (hown : w.ownsRow base e size v n xs)
    (a : Addr) (m c : Nat) (news : List Value) (hl : news.length = m * size) (hnews : ∀ j u, news[j]? = some u → w.cell? (a.add j) = some u) (h1 : ∀ u ∈ news, u.oneCell' = true)
    (hbytes : (n + m) * bytes ≤ 140737488355328) (h63 : n + m ≤ maxLen) (hbase : base ≤ w.heap.size) :
    ∃ v' w', (Builtin.append_ #[t, t] ty #[v, .slice (some a) m c]).run P w = .ok v' w' ∧ w'.ownsRow base e size v' (n + m) (xs ++ news) ∧ w.grownBy w' v.ownBlock ∧
      (v'.ownBlock = v.ownBlock ∨ v'.ownBlock = some w.heap.size) := by
  obtain ⟨v', w', hr, h2, h3, _⟩ := run_append_own (P := P) w base t ty e i z size bytes ht hi hz hsize hby hzs hsz v n xs hown a m c news hl hnews h1 h63 hbytes hbase
  refine ⟨v', w', hr, h2, h3, ?_⟩
  have hsmall : n + m ≤ 9223372036854775807 := by simp only [maxLen] at h63; omega
  rcases hown.2 with ⟨rfl, rfl⟩ | ⟨g, cap, cur, rfl, hbg, hg, hnc, hcm, hcs, htake⟩
  · by_cases hm : m = 0
    · subst hm
      rcases h2.2 with ⟨rfl, _⟩ | ⟨g, cap, cur, rfl, hbg, hg, hnc, hcm, hcs, htake⟩
      · exact .inl rfl
      · have hn : news = [] := List.eq_nil_of_length_eq_zero (by simpa using hl)
        subst hn
        have : (Builtin.append_ #[t, t] ty #[.slice none 0 0, .slice (some a) 0 c]).run P w = .ok (.slice none 0 0) w := by
          simp [Builtin.append_, run_underlying ht, sizeOf, typeInfo, hi, Builtin.lenOf, Builtin.firstCells, loadCells, loadCellsFrom]
        rw [this] at hr
        simp at hr
    · have hr2 := run_append_nil (P := P) w t ty e i z ht hi hz a m c news (by rw [hsize]; exact hl) hnews (by omega) (by omega) (by rw [hby]; have hb := hbytes; simp only [Nat.zero_add] at hb; omega)
      rw [hr] at hr2
      injection hr2 with e1 e2
      rw [e1]
      exact .inr rfl
  · by_cases hroom : n + m ≤ cap
    · obtain ⟨w2, hr2, _⟩ := run_append_fits (P := P) w base t ty e i size ht hi hsize g n cap xs hown a m c news hl hnews h1 hroom
      rw [hr] at hr2
      injection hr2 with e1 e2
      rw [e1]
      exact .inl rfl
    · have holds : ∀ j u, xs[j]? = some u → w.cell? ((⟨g, 0, none⟩ : Addr).add j) = some u := hown.cells (g := g) rfl
      have hr2 := run_append_grow (P := P) w t ty e i z ht hi hz ⟨g, 0, none⟩ n cap xs (by rw [hsize]; exact hown.1) holds a m c news (by rw [hsize]; exact hl) hnews (by omega) (by omega) (growslice_fits (by omega) (by rw [hby]; exact hbytes))
      rw [hr] at hr2
      injection hr2 with e1 e2
      rw [e1]
      exact .inr rfl
theorem wpList_append_x {ops : Array Oper} {rest : List Oper} {o : Oper} {a : Act} {Q : Exit → Act → World → Prop} (hgd : o.guard = none) (s x : Operand) (t : TypeId)
    (ho : o.op = .call { callee := .builtin .append, args := #[s, x], argTypes := #[t, t] })
    (base : Nat) (e : TypeId) (i : TypeInfo) (z : Value) (size bytes : Nat) (ht : P.underlying t = some (.slice e)) (hi : P.info? e = some i) (hz : i.zero = some z)
    (hsize : i.size = size) (hby : i.bytes = bytes) (hzs : z.cells.size = size) (hsz : 0 < size)
    (v : Value) (n : Nat) (xs : List Value) (hs : a.eval s = v) (hown : w.ownsRow base e size v n xs)
    (ad : Addr) (m c : Nat) (news : List Value) (hx : a.eval x = .slice (some ad) m c) (hl : news.length = m * size) (hnews : ∀ j u, news[j]? = some u → w.cell? (ad.add j) = some u) (h1 : ∀ u ∈ news, u.oneCell' = true)
    (hbytes : (n + m) * bytes ≤ 140737488355328) (h63 : n + m ≤ maxLen) (hbase : base ≤ w.heap.size)
    (h : ∀ v' w', w'.ownsRow base e size v' (n + m) (xs ++ news) → w.grownBy w' v.ownBlock → (v'.ownBlock = v.ownBlock ∨ v'.ownBlock = some w.heap.size) → wpList P ops Q rest (a.put o.dst v') w') : wpList P ops Q (o :: rest) a w := by
  refine wpList_plain hgd fun K hK => ?_
  obtain ⟨v', w', hr, h2, h3, h4⟩ := run_append_x (P := P) w base t o.type e i z size bytes ht hi hz hsize hby hzs hsz v n xs hown ad m c news hl hnews h1 hbytes h63 hbase
  unfold Oper.wp execOp
  simp only [ho, resolve, invoke, builtin, Sem.run_bind, Sem.run_pure, Result.andThen_ok, List.map_toArray, List.map_cons, List.map_nil, hs, hx, hr]
  exact hK _ _ (h v' w' h2 h3 h4)
end

/-! ### append of a whole slice -/
/-- What is appended: nil or empty, or a row of cells somewhere. -/
def World.source (w : World) (size : Nat) (a : Option Addr) (m : Nat) (ys : List Value) : Prop :=
  ys.length = m * size ∧ (∀ u ∈ ys, u.oneCell' = true) ∧ ((a = none ∧ m = 0) ∨ ∃ ad, a = some ad ∧ ∀ j u, ys[j]? = some u → w.cell? (ad.add j) = some u)
section
variable {P : Program} (w : World)
theorem run_append_none (base : Nat) (t ty e : TypeId) (i : TypeInfo) (size c : Nat) (ht : P.underlying t = some (.slice e)) (hi : P.info? e = some i)
    (v : Value) (n : Nat) (xs : List Value) (hown : w.ownsRow base e size v n xs) :
    (Builtin.append_ #[t, t] ty #[v, .slice none 0 c]).run P w = .ok v w := by
  rcases hown.2 with ⟨rfl, rfl⟩ | ⟨g, cap, cur, rfl, _, _, hnc, _⟩
  · simp [Builtin.append_, run_underlying ht, sizeOf, typeInfo, hi, Builtin.lenOf, Builtin.firstCells]
  · simp [Builtin.append_, run_underlying ht, sizeOf, typeInfo, hi, Builtin.lenOf, Builtin.firstCells, hnc, storeCells]
theorem wpList_append_xs {ops : Array Oper} {rest : List Oper} {o : Oper} {a : Act} {Q : Exit → Act → World → Prop} (hgd : o.guard = none) (s x : Operand) (t : TypeId)
    (ho : o.op = .call { callee := .builtin .append, args := #[s, x], argTypes := #[t, t] })
    (base : Nat) (e : TypeId) (i : TypeInfo) (z : Value) (size bytes : Nat) (ht : P.underlying t = some (.slice e)) (hi : P.info? e = some i) (hz : i.zero = some z)
    (hsize : i.size = size) (hby : i.bytes = bytes) (hzs : z.cells.size = size) (hsz : 0 < size)
    (v : Value) (n : Nat) (xs : List Value) (hs : a.eval s = v) (hown : w.ownsRow base e size v n xs)
    (ad : Option Addr) (m c : Nat) (news : List Value) (hx : a.eval x = .slice ad m c) (hsrc : w.source size ad m news)
    (hbytes : (n + m) * bytes ≤ 140737488355328) (h63 : n + m ≤ maxLen) (hbase : base ≤ w.heap.size)
    (h : ∀ v' w', w'.ownsRow base e size v' (n + m) (xs ++ news) → w.grownBy w' v.ownBlock → (v'.ownBlock = v.ownBlock ∨ v'.ownBlock = some w.heap.size) → wpList P ops Q rest (a.put o.dst v') w') : wpList P ops Q (o :: rest) a w := by
  obtain ⟨hl, h1, ⟨rfl, rfl⟩ | ⟨ad, rfl, hnews⟩⟩ := hsrc
  · refine wpList_plain hgd fun K hK => ?_
    have hr := run_append_none (P := P) w base t o.type e i size c ht hi v n xs hown
    have hn : news = [] := List.eq_nil_of_length_eq_zero (by simpa using hl)
    subst hn
    unfold Oper.wp execOp
    simp only [ho, resolve, invoke, builtin, Sem.run_bind, Sem.run_pure, Result.andThen_ok, List.map_toArray, List.map_cons, List.map_nil, hs, hx, hr]
    exact hK _ _ (h v w (by simpa using hown) ⟨rfl, rfl, rfl, Nat.le_refl _, fun _ _ _ => rfl⟩ (.inl rfl))
  · exact wpList_append_x w hgd s x t ho base e i z size bytes ht hi hz hsize hby hzs hsz v n xs hs hown ad m c news hx hl hnews h1 hbytes h63 hbase h
end
end Go

namespace Go.Proofs.Ytbiecglooagmmaa
set_option linter.unusedSimpArgs false
set_option linter.unusedVariables false
set_option maxRecDepth 100000
open Go.RowKit Go.Maps

theorem infoY : (Try.prog.info? 5).map (fun i => (i.zero, i.size, i.bytes)) = some (some (.int .u8 0), 1, 1) := by kernel_rfl
abbrev byV (c : UInt8) : Value := .int .u8 (c.toNat : Int)
/-- The slice 'a, length' reads as these bytes. -/
def RdY (w : World) (a : Option Addr) (l : List UInt8) : Prop :=
  l.length ≤ 1000000000 ∧ (l = [] ∨ ∃ b o, a = some ⟨b, o, none⟩ ∧ ∀ k c, l[k]? = some c → w.cell? ⟨b, o + k, none⟩ = some (byV c))
def OwnY (w : World) (B : Nat) (v : Value) (l : List UInt8) : Prop := w.ownsRow B 5 1 v l.length (l.map byV)
theorem RdY.keep {w w' : World} (h : Below w.heap.size w w') {a : Option Addr} {l : List UInt8} (hr : RdY w a l) : RdY w' a l :=
  ⟨hr.1, hr.2.imp id fun ⟨b, o, ha, hat⟩ => ⟨b, o, ha, fun k x hk => h.keep (hat k x hk)⟩⟩
theorem RdY.at {w : World} {a : Option Addr} {l : List UInt8} (hr : RdY w a l) (h : 0 < l.length) : ∃ b o, a = some ⟨b, o, none⟩ ∧ ∀ k c, l[k]? = some c → w.cell? ⟨b, o + k, none⟩ = some (byV c) :=
  hr.2.resolve_left (by intro e; rw [e] at h; simp at h)
theorem RdY.nil (w : World) : RdY w none [] := ⟨by simp, .inl rfl⟩
theorem OwnY.nil (w : World) (B : Nat) : OwnY w B (.slice none 0 0) [] := World.ownsRow_nil _ _ _ _
theorem OwnY.lt {w : World} {B : Nat} {v : Value} {l : List UInt8} (h : OwnY w B v l) : ∀ k, v.ownBlock = some k → B ≤ k ∧ k < w.heap.size := World.ownsRow.lt h
theorem OwnY.mono {w : World} {B B' : Nat} {v : Value} {l : List UInt8} (h : OwnY w B v l) (hB : B' ≤ B) : OwnY w B' v l :=
  ⟨h.1, h.2.imp id fun ⟨g, cap, cur, hv, hg, r⟩ => ⟨g, cap, cur, hv, Nat.le_trans hB hg, r⟩⟩
theorem OwnY.keep {w w' : World} {B : Nat} {v : Value} {l : List UInt8} (h : OwnY w B v l) (hb : Below w.heap.size w w') : OwnY w' B v l :=
  World.ownsRow.kept h (row := none) ⟨hb.os, hb.tape, hb.output, hb.size, fun k hk _ => hb.block k hk⟩ (by cases hv : v.ownBlock <;> simp)
theorem OwnY.other {w w' : World} {B : Nat} {v : Value} {l : List UInt8} {row : Option Nat} (h : OwnY w B v l) (hg : w.grownBy w' row) (hne : v.ownBlock = none ∨ v.ownBlock ≠ row) : OwnY w' B v l :=
  World.ownsRow.kept h hg hne
theorem OwnY.form {w : World} {B : Nat} {v : Value} {l : List UInt8} (h : OwnY w B v l) :
    (v = .slice none 0 0 ∧ l = []) ∨ ∃ g c, v = .slice (some ⟨g, 0, none⟩) l.length c ∧ B ≤ g ∧ g < w.heap.size ∧ l.length ≤ c ∧ c ≤ maxLen ∧ (∀ k x, l[k]? = some x → w.cell? ⟨g, k, none⟩ = some (byV x)) ∧ ∀ i, w.frozen? ⟨g, i, none⟩ = false := by
  rcases h.2 with ⟨rfl, hn⟩ | ⟨g, cap, cur, rfl, hb, hg, hn, hc, hs, ht⟩
  · exact .inl ⟨rfl, List.eq_nil_of_length_eq_zero hn⟩
  · refine .inr ⟨g, cap, rfl, hb, (Array.getElem?_eq_some_iff.1 hg).1, hn, hc, fun k x hk => ?_, fun i => World.ownsRow.frozenAt h i⟩
    have hk' : k < l.length := (List.getElem?_eq_some_iff.1 hk).1
    rw [World.ownsRow.cellAt (cap := cap) h k (by omega), List.getElem?_map, hk]
    rfl
theorem OwnY.rd {w : World} {B : Nat} {v : Value} {l : List UInt8} (h : OwnY w B v l) (hl : l.length ≤ 1000000000) : ∃ a c, v = .slice a l.length c ∧ l.length ≤ c ∧ c ≤ maxLen ∧ RdY w a l := by
  rcases h.form with ⟨rfl, rfl⟩ | ⟨g, c, rfl, _, _, h3, h4, hat, _⟩
  · exact ⟨_, _, rfl, by simp, by simp, RdY.nil w⟩
  · exact ⟨_, _, rfl, h3, h4, hl, .inr ⟨g, 0, rfl, fun k x hk => by rw [Nat.zero_add]; exact hat k x hk⟩⟩
theorem RdY.source {w : World} {a : Option Addr} {l : List UInt8} (h : RdY w a l) : w.source 1 a l.length (l.map byV) := by
  refine ⟨by simp, fun u hu => by obtain ⟨x, _, rfl⟩ := List.mem_map.1 hu; rfl, ?_⟩
  rcases h.2 with rfl | ⟨b, o, rfl, hat⟩
  · cases a with
    | none => exact .inl ⟨rfl, rfl⟩
    | some ad => exact .inr ⟨ad, rfl, fun j u hu => by simp at hu⟩
  · refine .inr ⟨_, rfl, fun j u hu => ?_⟩
    rw [List.getElem?_map] at hu
    obtain ⟨x, hx, rfl⟩ := Option.map_eq_some_iff.1 hu
    have := hat j x hx
    by_cases hj0 : j = 0
    · subst hj0; simpa [Addr.add] using this
    · simpa [Addr.add, hj0] using this
theorem OwnY.empty (w : World) (B : Nat) (hB : B ≤ w.heap.size) : OwnY (w.alloc (.cells #[] 5)) B (.slice (some ⟨w.heap.size, 0, none⟩) 0 0) [] :=
  World.ownsRow_lit w #[] 0 hB (by simp) rfl
theorem OwnY.append {w : World} {B n : Nat} {v : Value} {l r : List UInt8} (h : w.ownsRow B 5 1 v n (l.map byV ++ r.map byV)) (hn : n = l.length + r.length) : OwnY w B v (l ++ r) := by
  subst hn
  unfold OwnY
  rw [List.map_append, List.length_append]
  exact h
theorem RdY.drop {w : World} {b o : Nat} {l : List UInt8} (h : RdY w (some ⟨b, o, none⟩) l) (k : Nat) : RdY w (some ⟨b, o + k, none⟩) (l.drop k) := by
  refine ⟨by rw [List.length_drop]; have := h.1; omega, ?_⟩
  rcases h.2 with rfl | ⟨b', o', e, hat⟩
  · exact .inl (by simp)
  · injection e with e
    injection e with e1 e2
    subst e1 e2
    refine .inr ⟨b, o + k, rfl, fun j c hj => ?_⟩
    rw [List.getElem?_drop] at hj
    have := hat (k + j) c hj
    rwa [show o + k + j = o + (k + j) by omega]
theorem RdY.take {w : World} {a : Option Addr} {l : List UInt8} (h : RdY w a l) (k : Nat) : RdY w a (l.take k) := by
  refine ⟨by rw [List.length_take]; have := h.1; omega, ?_⟩
  rcases h.2 with rfl | ⟨b, o, ha, hat⟩
  · exact .inl (by simp)
  · refine .inr ⟨b, o, ha, fun j c hj => hat j c ?_⟩
    rw [List.getElem?_take] at hj
    split at hj
    · exact hj
    · cases hj
end Go.Proofs.Ytbiecglooagmmaa
