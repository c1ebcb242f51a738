/-
  Lists of extents that a call owns; extent.push.
  Conditions: as each theorem says.
-/
import Derived.Test.YtcalianponiioaaTgB
namespace Go.Proofs.Ytcalianponiioaa
set_option linter.unusedSimpArgs false
set_option linter.unusedVariables false
open Go.RowKit

def E.cells (x : E) : List Value := [.int .i64 x.a, .int .i64 x.n, .int .i64 x.s]
def cellsL (l : List E) : List Value := l.flatMap E.cells
theorem cellsL_length (l : List E) : (cellsL l).length = l.length * 3 := by
  induction l with
  | nil => rfl
  | cons x r ih => simp only [cellsL, List.flatMap_cons, List.length_append, List.length_cons] at ih ⊢; rw [ih]; simp [E.cells]; omega
theorem cellsL_append (l r : List E) : cellsL (l ++ r) = cellsL l ++ cellsL r := by simp [cellsL]
theorem cellsL_get (l : List E) : ∀ (k : Nat) (x : E), l[k]? = some x → (cellsL l)[k * 3]? = some (.int .i64 x.a) ∧ (cellsL l)[k * 3 + 1]? = some (.int .i64 x.n) ∧ (cellsL l)[k * 3 + 2]? = some (.int .i64 x.s) := by
  induction l with
  | nil => intro k x h; simp at h
  | cons y r ih =>
    intro k x h
    cases k with
    | zero => simp at h; subst h; simp [cellsL, E.cells]
    | succ k =>
      obtain ⟨h1, h2, h3⟩ := ih k x (by simpa using h)
      have e : cellsL (y :: r) = [.int .i64 y.a, .int .i64 y.n, .int .i64 y.s] ++ cellsL r := rfl
      rw [e]
      refine ⟨?_, ?_, ?_⟩
      · rw [List.getElem?_append_right (by simp; omega), ← h1]; congr 1; simp; omega
      · rw [List.getElem?_append_right (by simp; omega), ← h2]; congr 1; simp; omega
      · rw [List.getElem?_append_right (by simp; omega), ← h3]; congr 1; simp; omega
theorem cellsL_one (l : List E) : ∀ u ∈ cellsL l, u.oneCell' = true := by
  intro u hu
  simp only [cellsL, List.mem_flatMap, E.cells] at hu
  obtain ⟨x, _, hx⟩ := hu
  simp at hx
  rcases hx with rfl | rfl | rfl <;> rfl

/-- The slice value v, owned from block B on, holds the list l. -/
def OwnE (w : World) (B : Nat) (v : Value) (l : List E) : Prop := w.ownsRow B 33 3 v l.length (cellsL l)
theorem OwnE.nil (w : World) (B : Nat) : OwnE w B (.slice none 0 0) [] := World.ownsRow_nil _ _ _ _
theorem OwnE.lt {w : World} {B : Nat} {v : Value} {l : List E} (h : OwnE w B v l) : ∀ k, v.ownBlock = some k → B ≤ k ∧ k < w.heap.size := World.ownsRow.lt h
theorem OwnE.mono {w : World} {B B' : Nat} {v : Value} {l : List E} (h : OwnE w B v l) (hB : B' ≤ B) : OwnE w B' v l :=
  ⟨h.1, h.2.imp id fun ⟨g, cap, cur, hv, hg, r⟩ => ⟨g, cap, cur, hv, Nat.le_trans hB hg, r⟩⟩
theorem OwnE.keep {w w' : World} {B : Nat} {v : Value} {l : List E} (h : OwnE w B v l) (hb : Below w.heap.size w w') : OwnE w' B v l :=
  World.ownsRow.kept h (row := none) ⟨hb.os, hb.tape, hb.output, hb.size, fun k hk _ => hb.block k hk⟩ (by cases hv : v.ownBlock <;> simp)
/-- Another row is written. -/
theorem OwnE.other {w w' : World} {B : Nat} {v : Value} {l : List E} {row : Option Nat} (h : OwnE w B v l) (hg : w.grownBy w' row) (hne : v.ownBlock = none ∨ v.ownBlock ≠ row) : OwnE w' B v l :=
  World.ownsRow.kept h hg hne
/-- What an owned list is: nil, or a block. -/
theorem OwnE.form {w : World} {B : Nat} {v : Value} {l : List E} (h : OwnE w B v l) :
    (v = .slice none 0 0 ∧ l = []) ∨ ∃ g c, v = .slice (some ⟨g, 0, none⟩) l.length c ∧ B ≤ g ∧ g < w.heap.size ∧ l.length ≤ c ∧ c ≤ maxLen ∧ (∀ k x, l[k]? = some x → At w g 0 k x) ∧ ∀ i, w.frozen? ⟨g, i, none⟩ = false := by
  rcases h.2 with ⟨rfl, hn⟩ | ⟨g, cap, cur, rfl, hb, hg, hn, hc, hs, ht⟩
  · exact .inl ⟨rfl, List.eq_nil_of_length_eq_zero hn⟩
  · refine .inr ⟨g, cap, rfl, hb, (Array.getElem?_eq_some_iff.1 hg).1, hn, hc, fun k x hk => ?_, fun i => World.ownsRow.frozenAt h i⟩
    have hk' : k < l.length := (List.getElem?_eq_some_iff.1 hk).1
    obtain ⟨h1, h2, h3⟩ := cellsL_get l k x hk
    have c := fun j hj => World.ownsRow.cellAt (cap := cap) h j hj
    refine ⟨?_, ?_, ?_⟩
    · rw [Nat.zero_add, c _ (by omega), h1]
    · rw [Nat.zero_add, c _ (by omega), h2]
    · rw [Nat.zero_add, c _ (by omega), h3]
theorem OwnE.rd {w : World} {B : Nat} {v : Value} {l : List E} (h : OwnE w B v l) (hl : l.length ≤ 46912496118443) : ∃ a c, v = .slice a l.length c ∧ Rd w a l := by
  rcases h.form with ⟨rfl, rfl⟩ | ⟨g, c, rfl, _, _, _, _, hat, _⟩
  · exact ⟨_, _, rfl, by simp, .inl rfl⟩
  · exact ⟨_, _, rfl, hl, .inr ⟨g, 0, rfl, hat⟩⟩

theorem OwnE.snoc {w : World} {B n : Nat} {v : Value} {l : List E} {x : E} (h : w.ownsRow B 33 3 v n (cellsL l ++ x.cells)) (hn : n = l.length + 1) : OwnE w B v (l ++ [x]) := by
  subst hn
  unfold OwnE
  rw [cellsL_append, List.length_append]
  have : cellsL [x] = x.cells := by simp [cellsL]
  rw [this]
  exact h

theorem cellsL_longer (l : List E) (y : E) (n : Int) : (cellsL (l ++ [y])).set (l.length * 3 + 1) (.int .i64 (y.n + n)) = cellsL (l ++ [y.longer n]) := by
  rw [cellsL_append, cellsL_append, List.set_append_right _ _ (by rw [cellsL_length]; omega), cellsL_length, show l.length * 3 + 1 - l.length * 3 = 1 by omega]
  rfl

theorem infoE : (Try.prog.info? 33).map (fun i => (i.zero, i.size, i.bytes)) = some (some (.agg #[.int .i64 0, .int .i64 0, .int .i64 0]), 3, 24) := by kernel_rfl

theorem end_is (a n s r : Int) (w : World) (hr : a + n = r) (h0 : -9223372036854775808 ≤ a + n) (h1 : a + n ≤ 9223372036854775807) :
    Calls Try.prog 35 #[.agg #[.int .i64 a, .int .i64 n, .int .i64 s]] w fun e w' => e = .returned (.int .i64 r) ∧ Below w.heap.size w w' := by
  subst hr
  exact end_any a n s w h0 h1

set_option maxHeartbeats 400000 in
theorem push_nil (v : Value) (x : E) (B : Nat) (w : World) (hown : OwnE w B v []) (hB : B ≤ w.heap.size) :
    Calls Try.prog 31 #[v, .agg #[.int .i64 x.a, .int .i64 x.n, .int .i64 x.s]] w fun e w' =>
      ∃ v', e = .returned v' ∧ OwnE w' B v' [x] ∧ w.grownBy w' v.ownBlock ∧ (v'.ownBlock = v.ownBlock ∨ ∃ k, v'.ownBlock = some k ∧ w.heap.size ≤ k) := by
  obtain ⟨i0, hi, hz0, hz1, hz2⟩ := info_parts infoE
  obtain ⟨a, c, rfl⟩ : ∃ a c, v = .slice a 0 c := by
    rcases hown.form with ⟨rfl, _⟩ | ⟨g, c, rfl, _⟩
    · exact ⟨_, _, rfl⟩
    · exact ⟨_, _, rfl⟩
  have ho := Lib.hid hown
  clear hown
  go_enter Try.func31, Try.ntmps31
  go_wp2_with fail
  refine wp_region_next (by kernel_rfl) (by kernel_rfl) ?_
  repeat (go_big_quiet_step (fail))
  refine wpQuiet_nil ?_
  intro _ hw'
  obtain ⟨nq, hw''⟩ := hw'
  subst hw''
  generalize hW : World.next _ nq = W
  have hb : Below w.heap.size w W := by rw [← hW]; exact ((Below.refl _ _).onAlloc _).onNext _
  have x1 : W.cell? ⟨w.heap.size, 0, none⟩ = some (.int .i64 x.a) := by rw [← hW]; simp
  have x2 : W.cell? ⟨w.heap.size, 1, none⟩ = some (.int .i64 x.n) := by rw [← hW]; simp
  have x3 : W.cell? ⟨w.heap.size, 2, none⟩ = some (.int .i64 x.s) := by rw [← hW]; simp
  have ho2 := Lib.hid (ho.out.keep hb)
  clear hW ho
  go_wp2_with (at_builtin; refine wpList_append_x _ rfl _ _ 22 rfl B 33 i0 (.agg #[.int .i64 0, .int .i64 0, .int .i64 0]) 3 24 Try.underlying22 hi hz0 hz1 hz2 rfl (by decide) _ _ _ rfl (World.ownsRow.alloc ho2.out _) ⟨W.heap.size, 0, none⟩ 1 1 (E.cells x) rfl rfl ?c1 ?c2 (by simp only [List.length_append, List.length_cons, List.length_nil]; omega) (by simp only [List.length_append, List.length_cons, List.length_nil, maxLen]; omega) ?c5 ?_)
  case c1 =>
    intro j u hj
    match j, hj with
    | 0, hj => simp [E.cells] at hj; subst hj; simp [Addr.add]
    | 1, hj => simp [E.cells] at hj; subst hj; simp [Addr.add]
    | 2, hj => simp [E.cells] at hj; subst hj; simp [Addr.add]
  case c2 => exact cellsL_one [x]
  case c5 => have := hb.size; simp; omega
  intro v' w1 hown' hgrow hwhere
  go_wp2
  go_ret
  refine ⟨v', rfl, OwnE.snoc hown' (by simp), ?_, ?_⟩
  · exact (hb.onAlloc _).grow hgrow
  · exact hwhere.imp id fun h => ⟨_, h, by have := hb.size; simp; omega⟩

set_option maxHeartbeats 400000 in
theorem push_no (v : Value) (l : List E) (y x : E) (B : Nat) (w : World) (hown : OwnE w B v (l ++ [y])) (hB : B ≤ w.heap.size) (hl : l.length ≤ 1000000000) (hy : okB y = true) (hx : okB x = true) (hm : meets y x = false) :
    Calls Try.prog 31 #[v, .agg #[.int .i64 x.a, .int .i64 x.n, .int .i64 x.s]] w fun e w' =>
      ∃ v', e = .returned v' ∧ OwnE w' B v' (l ++ [y] ++ [x]) ∧ w.grownBy w' v.ownBlock ∧ (v'.ownBlock = v.ownBlock ∨ ∃ k, v'.ownBlock = some k ∧ w.heap.size ≤ k) := by
  obtain ⟨i0, hi, hz0, hz1, hz2⟩ := info_parts infoE
  obtain ⟨g, c, rfl, hg1, hg2, hc1, hc2, hat, hfz⟩ := (hown.form).resolve_left (by simp)
  obtain ⟨y1, y2, y3⟩ := hat l.length y (by simp)
  simp only [List.length_append, List.length_cons, List.length_nil, Nat.zero_add] at y1 y2 y3 hc1
  rw [okB_iff] at hy hx
  obtain ⟨e1, e2, e3, e4, e5⟩ := hy
  obtain ⟨f1, f2, f3, f4, f5⟩ := hx
  have hlen : (l ++ [y]).length = l.length + 1 := by simp
  rw [hlen] at hown ⊢
  have ho := Lib.hid hown
  clear hat hown hlen
  have hd : decide (0 ≤ l.length) = true := by simp
  by_cases ha : y.a + y.n = x.a
  · have hs : y.s + y.n ≠ x.s := by intro h; simp [meets, ha, h] at hm
    have hsb : (y.s + y.n == x.s) = false := by simpa using hs
    have HA := Lib.hid ha
    clear ha hm
    have hab : (x.a == x.a) = true := by simp
    go_enter Try.func31, Try.ntmps31
    go_wp2_with fail
    refine wp_region_next (by kernel_rfl) (by kernel_rfl) ?_
    repeat (go_big_quiet_step ((go_at_call 35; exact Calls.next_of (end_is _ _ _ x.a _ HA.out (by omega) (by omega)))))
    refine wpQuiet_nil ?_
    intro _ hw'
    obtain ⟨nq, hw''⟩ := hw'
    subst hw''
    generalize hW : World.next _ nq = W
    have hb : Below w.heap.size w W := by rw [← hW]; exact ((Below.refl _ _).onAlloc _).onNext _
    have x1 : W.cell? ⟨w.heap.size, 0, none⟩ = some (.int .i64 x.a) := by rw [← hW]; simp
    have x2 : W.cell? ⟨w.heap.size, 1, none⟩ = some (.int .i64 x.n) := by rw [← hW]; simp
    have x3 : W.cell? ⟨w.heap.size, 2, none⟩ = some (.int .i64 x.s) := by rw [← hW]; simp
    have ho2 := Lib.hid (ho.out.keep hb)
    clear hW ho
    go_wp2_with (at_builtin; refine wpList_append_x _ rfl _ _ 22 rfl B 33 i0 (.agg #[.int .i64 0, .int .i64 0, .int .i64 0]) 3 24 Try.underlying22 hi hz0 hz1 hz2 rfl (by decide) _ _ _ rfl (World.ownsRow.alloc ho2.out _) ⟨W.heap.size, 0, none⟩ 1 1 (E.cells x) rfl rfl ?c1 ?c2 (by simp only [List.length_append, List.length_cons, List.length_nil]; omega) (by simp only [List.length_append, List.length_cons, List.length_nil, maxLen]; omega) ?c5 ?_)
    case c1 =>
      intro j u hj
      match j, hj with
      | 0, hj => simp [E.cells] at hj; subst hj; simp [Addr.add]
      | 1, hj => simp [E.cells] at hj; subst hj; simp [Addr.add]
      | 2, hj => simp [E.cells] at hj; subst hj; simp [Addr.add]
    case c2 => exact cellsL_one [x]
    case c5 => have := hb.size; simp; omega
    intro v' w1 hown' hgrow hwhere
    go_wp2
    go_ret
    refine ⟨v', rfl, OwnE.snoc hown' (by simp), ?_, ?_⟩
    · exact (hb.onAlloc _).grow hgrow
    · exact hwhere.imp id fun h => ⟨_, h, by have := hb.size; simp; omega⟩
  · have hab : (y.a + y.n == x.a) = false := by simpa using ha
    have HA := Lib.hid ha
    clear ha hm
    go_enter Try.func31, Try.ntmps31
    go_wp2_with fail
    refine wp_region_next (by kernel_rfl) (by kernel_rfl) ?_
    repeat (go_big_quiet_step ((go_at_call 35; exact Calls.next_of (end_any _ _ _ _ (by omega) (by omega)))))
    refine wpQuiet_nil ?_
    intro _ hw'
    obtain ⟨nq, hw''⟩ := hw'
    subst hw''
    generalize hW : World.next _ nq = W
    have hb : Below w.heap.size w W := by rw [← hW]; exact ((Below.refl _ _).onAlloc _).onNext _
    have x1 : W.cell? ⟨w.heap.size, 0, none⟩ = some (.int .i64 x.a) := by rw [← hW]; simp
    have x2 : W.cell? ⟨w.heap.size, 1, none⟩ = some (.int .i64 x.n) := by rw [← hW]; simp
    have x3 : W.cell? ⟨w.heap.size, 2, none⟩ = some (.int .i64 x.s) := by rw [← hW]; simp
    have ho2 := Lib.hid (ho.out.keep hb)
    clear hW ho
    go_wp2_with (at_builtin; refine wpList_append_x _ rfl _ _ 22 rfl B 33 i0 (.agg #[.int .i64 0, .int .i64 0, .int .i64 0]) 3 24 Try.underlying22 hi hz0 hz1 hz2 rfl (by decide) _ _ _ rfl (World.ownsRow.alloc ho2.out _) ⟨W.heap.size, 0, none⟩ 1 1 (E.cells x) rfl rfl ?c1 ?c2 (by simp only [List.length_append, List.length_cons, List.length_nil]; omega) (by simp only [List.length_append, List.length_cons, List.length_nil, maxLen]; omega) ?c5 ?_)
    case c1 =>
      intro j u hj
      match j, hj with
      | 0, hj => simp [E.cells] at hj; subst hj; simp [Addr.add]
      | 1, hj => simp [E.cells] at hj; subst hj; simp [Addr.add]
      | 2, hj => simp [E.cells] at hj; subst hj; simp [Addr.add]
    case c2 => exact cellsL_one [x]
    case c5 => have := hb.size; simp; omega
    intro v' w1 hown' hgrow hwhere
    go_wp2
    go_ret
    refine ⟨v', rfl, OwnE.snoc hown' (by simp), ?_, ?_⟩
    · exact (hb.onAlloc _).grow hgrow
    · exact hwhere.imp id fun h => ⟨_, h, by have := hb.size; simp; omega⟩

set_option maxHeartbeats 400000 in
theorem push_yes (v : Value) (l : List E) (y x : E) (B : Nat) (w : World) (hown : OwnE w B v (l ++ [y])) (hl : l.length ≤ 1000000000) (hy : okB y = true) (hx : okB x = true) (hm : meets y x = true) :
    Calls Try.prog 31 #[v, .agg #[.int .i64 x.a, .int .i64 x.n, .int .i64 x.s]] w fun e w' =>
      e = .returned v ∧ OwnE w' B v (l ++ [y.longer x.n]) ∧ w.grownBy w' v.ownBlock := by
  obtain ⟨g, c, rfl, hg1, hg2, hc1, hc2, hat, hfz⟩ := (hown.form).resolve_left (by simp)
  obtain ⟨y1, y2, y3⟩ := hat l.length y (by simp)
  simp only [List.length_append, List.length_cons, List.length_nil, Nat.zero_add] at y1 y2 y3 hc1
  have hf := hfz (l.length * 3 + 1)
  rw [okB_iff] at hy hx
  obtain ⟨e1, e2, e3, e4, e5⟩ := hy
  obtain ⟨f1, f2, f3, f4, f5⟩ := hx
  simp only [meets, Bool.and_eq_true, decide_eq_true_eq] at hm
  obtain ⟨ha, hs⟩ := hm
  have hlen : (l ++ [y]).length = l.length + 1 := by simp
  rw [hlen] at hown ⊢
  have ho := Lib.hid hown
  have hd : decide (0 ≤ l.length) = true := by simp
  have HA := Lib.hid ha
  have hab : (x.a == x.a) = true := by simp
  have hsb : (y.s + y.n == x.s) = true := by simpa using hs
  clear hat hown hlen ha hs hfz
  go_enter Try.func31, Try.ntmps31
  go_wp2_with fail
  refine wp_region_next (by kernel_rfl) (by kernel_rfl) ?_
  repeat (go_big_quiet_step ((go_at_call 35; exact Calls.next_of (end_is _ _ _ x.a _ HA.out (by omega) (by omega)))))
  refine wpQuiet_nil ?_
  intro _ hw'
  obtain ⟨nq, hw''⟩ := hw'
  subst hw''
  generalize hW : World.next _ nq = W
  have hb : Below w.heap.size w W := by rw [← hW]; exact ((Below.refl _ _).onAlloc _).onNext _
  have x1 : W.cell? ⟨w.heap.size, 0, none⟩ = some (.int .i64 x.a) := by rw [← hW]; simp
  have x2 : W.cell? ⟨w.heap.size, 1, none⟩ = some (.int .i64 x.n) := by rw [← hW]; simp
  have x3 : W.cell? ⟨w.heap.size, 2, none⟩ = some (.int .i64 x.s) := by rw [← hW]; simp
  have z2 := hb.keep y2
  have hfr := hb.keepF y2 hf
  have ho2 := Lib.hid (ho.out.keep hb)
  clear hW ho y1 y2 y3 hf
  go_wp2_with fail
  refine wp_region_next_tail 10 (by kernel_rfl) (by kernel_rfl) ?_
  simp only [List.take_succ_cons, List.take_zero, List.drop_succ_cons, List.drop_zero]
  repeat (go_big_quiet_step (fail))
  refine wpQuiet_nil ?_
  intro _ hw'
  obtain ⟨nq, hw''⟩ := hw'
  subst hw''
  have hb2 := World.below_next W nq
  have ho3 := Lib.hid (ho2.out.keep hb2)
  clear ho2
  go_wp2_with fail
  go_ret
  have h3 := ho3.out
  unfold OwnE at h3
  rw [show (l ++ [y]).length = l.length + 1 by simp] at h3
  have hst := World.ownsRow.stored h3 (l.length * 3 + 1) (.int .i64 (y.n + x.n))
  rw [cellsL_longer] at hst
  refine ⟨rfl, ?_, (hb.on hb2).grow hst.2⟩
  unfold OwnE
  rw [show (l ++ [y.longer x.n]).length = l.length + 1 by simp]
  exact hst.1

/-- push, whatever the list: what the call leaves. -/
def Pushed (w : World) (B : Nat) (v : Value) (l : List E) (e : Ending) (w' : World) : Prop :=
  ∃ v', e = .returned v' ∧ OwnE w' B v' l ∧ w.grownBy w' v.ownBlock ∧ (v'.ownBlock = v.ownBlock ∨ ∃ k, v'.ownBlock = some k ∧ w.heap.size ≤ k)
theorem push_any (v : Value) (l : List E) (x : E) (B : Nat) (w : World) (hown : OwnE w B v l) (hB : B ≤ w.heap.size) (hl : l.length ≤ 1000000000) (hy : ∀ y ∈ l, okB y = true) (hx : okB x = true) :
    Calls Try.prog 31 #[v, .agg #[.int .i64 x.a, .int .i64 x.n, .int .i64 x.s]] w (Pushed w B v (pushL l x)) := by
  by_cases h : l = []
  · subst h
    exact push_nil v x B w hown hB
  · obtain ⟨l', y, rfl⟩ := snoc_of l h
    have hl' : l'.length ≤ 1000000000 := by simp at hl; omega
    cases hm : meets y x
    · rw [pushL_no _ _ _ hm]
      exact push_no v l' y x B w hown hB hl' (hy y (by simp)) hx hm
    · rw [pushL_yes _ _ _ hm]
      exact (push_yes v l' y x B w hown hl' (hy y (by simp)) hx hm).mono fun e w' ⟨h1, h2, h3⟩ => ⟨v, h1, h2, h3, .inl rfl⟩
end Go.Proofs.Ytcalianponiioaa
