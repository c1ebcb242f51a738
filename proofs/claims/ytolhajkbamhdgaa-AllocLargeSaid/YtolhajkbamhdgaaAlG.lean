/-
  package alloc: Largest, Runs, Is; slices.Grow, slices.Concat, slices.BinarySearchFunc.
  Conditions: as each theorem says.
-/
import Derived.Test.YtolhajkbamhdgaaAlA
import Derived.Test.YtolhajkbamhdgaaAlR
import Derived.Lib.AppendZerosOnto
namespace Go.Proofs.Ytolhajkbamhdgaa
set_option linter.unusedSimpArgs false
set_option linter.unusedVariables false
open Go.RowKit

set_option maxRecDepth 100000 in
set_option maxHeartbeats 1000000 in
theorem aruns_any (N : Int) (R : List E) (a : Option Addr) (c : Nat) (w : World) (hr : Rd w a R) (hl : R.length ≤ 1000000000) :
    Calls Try.prog 40 #[.agg #[.int .i64 N, .slice a R.length c]] w fun e w' => ∃ v, e = .returned v ∧ OwnE w' w.heap.size v R ∧ Below w.heap.size w w' := by
  have hk := (Below.refl w.heap.size w).onAlloc (.cells #[.int .i64 N, .slice a R.length c] 58)
  have HR := Lib.hid (hr.keep hk)
  go_enter Try.func40, Try.ntmps40
  go_wp2_with fail
  refine (clone_any R a c _ HR.out hl).mono ?_
  rintro e w1 ⟨v, rfl, ho, hb1⟩
  go_wp2_with fail
  go_ret
  exact ⟨_, rfl, ho.mono hk.size, hk.on hb1⟩
set_option maxRecDepth 100000 in
set_option maxHeartbeats 1000000 in
theorem alargest_any (N : Int) (R : List E) (a : Option Addr) (c : Nat) (w : World) (hr : Rd w a R) (hC : Canon R) :
    Calls Try.prog 38 #[.agg #[.int .i64 N, .slice a R.length c]] w fun e w' => e = .returned (.int .i64 (maxL R)) ∧ Below w.heap.size w w' := by
  have hS := canon_short hC
  have HM : Hid (∀ x ∈ R, x.n ≤ 65536) := Lib.hid fun x hx => by
    have := (okB_iff x).1 (hC.1 x hx).2
    omega
  have HB := Lib.hid (maxL_bd _ HM.out)
  clear hC
  go_enter Try.func38, Try.ntmps38
  go_wp2_with fail
  go_loopw [3, 9] (fun v t wr => ∃ k : Nat, k ≤ R.length ∧ t = .int .i64 k ∧ v = .int .i64 (maxL (R.take k)) ∧ Below w.heap.size w wr) (fun _ t _ => R.length - (intOf t).toNat)
  case atStart => exact ⟨0, Nat.zero_le _, rfl, rfl, (Below.refl _ _).onAlloc _⟩
  case round =>
    obtain ⟨k, hk, rfl, rfl, hBk⟩ := hrel
    by_cases hlt : k < R.length
    · obtain ⟨b, o, rfl, hat⟩ := (hr.keep hBk).at (by omega)
      obtain ⟨h1, h2, h3⟩ := hat k _ (List.getElem?_eq_getElem hlt)
      have HT := Lib.hid (maxL_take R k hlt)
      obtain ⟨m1, m2⟩ := HB.out k hk
      generalize R[k] = x at *
      generalize maxL (R.take k) = sm at *
      clear hat hr
      go_wp2
      go_roundw
      case rel => exact ⟨k + 1, by omega, by go_num, (by rw [HT.out] <;> (congr 1; split <;> omega)), hBk.onAlloc _⟩
      case measure => simp [intOf]; omega
    · obtain rfl : k = R.length := by omega
      rw [List.take_length]
      go_wp2
      go_ret
      exact ⟨rfl, hBk⟩

/-! ### slices.Grow, slices.Concat -/
theorem OwnE.zeros (w : World) (cs : Array Value) (cap B : Nat) (hB : B ≤ w.heap.size) (hc : cap ≤ maxLen) (hs : cs.size = cap * 3) : OwnE (w.alloc (.cells cs 41)) B (.slice (some ⟨w.heap.size, 0, none⟩) 0 cap) [] := by
  exact ⟨rfl, .inr ⟨w.heap.size, cap, cs, rfl, hB, heap_alloc_new w _, Nat.zero_le _, hc, hs, by simp [cellsL]⟩⟩
set_option maxRecDepth 100000 in
set_option maxHeartbeats 2000000 in
theorem grow_any (n : Nat) (w : World) (hn : n ≤ 10000000) :
    Calls Try.prog 101 #[.slice none 0 0, .int .i64 n] w fun e w' => ∃ v, e = .returned v ∧ OwnE w' w.heap.size v [] ∧ Below w.heap.size w w' := by
  obtain ⟨i0, hi, hz0, hz1, hz2⟩ := info_parts infoE
  by_cases h0 : n = 0
  · subst h0
    go_enter Try.func101, Try.ntmps101
    go_wp2_with fail
    go_ret
    exact ⟨_, rfl, OwnE.nil _ _, Below.refl _ _⟩
  · have hn1 : 1 ≤ n := by omega
    have hold : (Builtin.firstCells i0.size 0 (.slice none 0 0)).run Try.prog w.drew = .ok (([] : List Value).toArray) w.drew := run_firstCells_none w.drew i0.size 0 0 0
    have hrz : ∀ ty, (Builtin.append_ #[32, 3] ty #[.slice none 0 0, .int .i64 n]).run Try.prog w = _ := fun ty =>
      Lib.run_append_grow_zeros w 32 3 ty 41 i0 (.agg #[.int .i64 0, .int .i64 0, .int .i64 0]) .i64 .i64 Try.underlying32 Try.underlying3 hi hz0 none 0 0 [] hold n (by omega) (by omega) (by omega) (by omega) (by rw [hz2]; omega)
        (by rw [Nat.zero_add]; exact growslice_fits (by omega) (by rw [hz2]; omega))
    simp only [Nat.zero_add] at hrz
    have hGn : n ≤ grownCap w n 0 41 := grownCap_ge w _ _ _
    have hG63 := grownCap_le_maxLen w n 0 41 (by unfold maxLen; omega)
    have HSZ : Hid ((([] : List Value).toArray ++ Builtin.zeroCells (Value.agg #[.int .i64 0, .int .i64 0, .int .i64 0]).cells n ++ Builtin.zeroCells (Value.agg #[.int .i64 0, .int .i64 0, .int .i64 0]).cells (grownCap w n 0 41 - n)).size = grownCap w n 0 41 * 3) := Lib.hid (by
      simp [Builtin.zeroCells, Value.cells]
      omega)
    generalize grownCap w n 0 41 = G at *
    generalize ([] : List Value).toArray ++ Builtin.zeroCells (Value.agg #[.int .i64 0, .int .i64 0, .int .i64 0]).cells n ++ Builtin.zeroCells (Value.agg #[.int .i64 0, .int .i64 0, .int .i64 0]).cells (G - n) = cs at *
    have HRZ := Lib.hid hrz
    have HM := Lib.hid hG63
    clear hrz hold hG63 h0
    go_enter Try.func101, Try.ntmps101
    go_wp2_with (at_builtin; refine Lib.wpList_append_run _ rfl _ _ _ _ rfl _ _ rfl rfl _ _ (HRZ.out _) ?_)
    go_ret
    exact ⟨_, rfl, OwnE.zeros w.drew cs G _ (Nat.le_refl _) HM.out HSZ.out, (Below.refl _ _).drew.onAlloc _⟩

set_option maxRecDepth 100000 in
set_option maxHeartbeats 4000000 in
theorem concat_any (A L : List E) (a al : Option Addr) (c cl q : Nat) (w : World) (hc0 : w.cell? ⟨q, 0, none⟩ = some (.slice a A.length c)) (hc1 : w.cell? ⟨q, 1, none⟩ = some (.slice al L.length cl)) (hrA : Rd w a A) (hrL : Rd w al L) (hA : A.length ≤ 1000000) (hL : L.length ≤ 1000000) :
    Calls Try.prog 81 #[.slice (some ⟨q, 0, none⟩) 2 2] w fun e w' => ∃ v, e = .returned v ∧ OwnE w' w.heap.size v (A ++ L) ∧ Below w.heap.size w w' := by
  obtain ⟨i0, hi, hz0, hz1, hz2⟩ := info_parts infoE
  have HRA := Lib.hid hrA
  have HRL := Lib.hid hrL
  clear hrA hrL
  go_enter Try.func81, Try.ntmps81
  go_wp2_with fail
  go_loopw [3, 5, 11] (fun v _ i wr => ((i = .int .i64 0 ∧ v = .int .i64 0) ∨ (i = .int .i64 1 ∧ v = .int .i64 A.length) ∨ (i = .int .i64 2 ∧ v = .int .i64 (A.length + L.length : Nat))) ∧ w = wr) (fun _ _ i _ => 2 - (intOf i).toNat)
  case atStart => exact ⟨.inl ⟨rfl, rfl⟩, rfl⟩
  case round =>
    obtain ⟨⟨rfl, rfl⟩ | ⟨rfl, rfl⟩ | ⟨rfl, rfl⟩, rfl⟩ := hrel
    · go_wp2_with fail
      go_roundw
      case rel => exact ⟨.inr (.inl ⟨by first | rfl | trivial, by go_num⟩), by first | rfl | trivial⟩
      case measure => simp [intOf]
    · go_wp2_with fail
      go_roundw
      case rel => exact ⟨.inr (.inr ⟨by first | rfl | trivial, by go_num⟩), by first | rfl | trivial⟩
      case measure => simp [intOf]
    · go_wp2_with fail
      refine (grow_any (A.length + L.length) w (by omega)).mono ?_
      rintro e w1 ⟨v1, rfl, ho1, hb1⟩
      have HO := Lib.hid ho1
      have HB := Lib.hid hb1
      clear ho1 hb1
      go_wp2_with fail
      go_loopw [6, 8, 27] (fun v _ i wr => ((i = .int .i64 0 ∧ OwnE wr w.heap.size v []) ∨ (i = .int .i64 1 ∧ OwnE wr w.heap.size v A) ∨ (i = .int .i64 2 ∧ OwnE wr w.heap.size v (A ++ L))) ∧ Below w.heap.size w wr) (fun _ _ i _ => 2 - (intOf i).toNat)
      case atStart => exact ⟨.inl ⟨rfl, HO.out⟩, HB.out⟩
      case round =>
        obtain ⟨⟨rfl, ho⟩ | ⟨rfl, ho⟩ | ⟨rfl, ho⟩, hB⟩ := hrel
        · have hq0 := hB.keep hc0
          have HQ := Lib.hid ho
          have HS := Lib.hid (HRA.out.keep hB).source
          have hsz := hB.size
          have hA0 : ([] : List E).length + A.length = A.length := by simp
          clear ho
          go_wp2_with (at_builtin; refine wpList_append_xs _ rfl _ _ 32 rfl w.heap.size 41 i0 (.agg #[.int .i64 0, .int .i64 0, .int .i64 0]) 3 24 Try.underlying32 hi hz0 hz1 hz2 rfl (by decide) _ _ _ rfl HQ.out _ _ _ _ rfl HS.out (by first | omega | (simp only [List.length_nil, List.length_append, List.length_cons]; omega)) (by first | (simp only [maxLen]; omega) | (simp only [maxLen, List.length_nil, List.length_append, List.length_cons]; omega)) (by first | omega | (simp only [World.size_alloc]; omega)) ?_; intro v1 w1 hown1 hgrow1 hwhere1)
          have HO6 := Lib.hid (OwnE.append hown1 rfl)
          have HB6 := Lib.hid (hB.onGrow hgrow1 (fun j hj => (HQ.out.lt j hj).1))
          clear hown1 hgrow1 hwhere1 hA0
          go_roundw
          case rel => exact ⟨.inr (.inl ⟨rfl, HO6.out⟩), HB6.out⟩
          case measure => simp [intOf]
        · have hq1 := hB.keep hc1
          have HQ := Lib.hid ho
          have HS := Lib.hid (HRL.out.keep hB).source
          have hsz := hB.size
          clear ho
          go_wp2_with (at_builtin; refine wpList_append_xs _ rfl _ _ 32 rfl w.heap.size 41 i0 (.agg #[.int .i64 0, .int .i64 0, .int .i64 0]) 3 24 Try.underlying32 hi hz0 hz1 hz2 rfl (by decide) _ _ _ rfl HQ.out _ _ _ _ rfl HS.out (by first | omega | (simp only [List.length_nil, List.length_append, List.length_cons]; omega)) (by first | (simp only [maxLen]; omega) | (simp only [maxLen, List.length_nil, List.length_append, List.length_cons]; omega)) (by first | omega | (simp only [World.size_alloc]; omega)) ?_; intro v1 w1 hown1 hgrow1 hwhere1)
          have HO6 := Lib.hid (OwnE.append hown1 rfl)
          have HB6 := Lib.hid (hB.onGrow hgrow1 (fun j hj => (HQ.out.lt j hj).1))
          clear hown1 hgrow1 hwhere1
          go_roundw
          case rel => exact ⟨.inr (.inr ⟨rfl, HO6.out⟩), HB6.out⟩
          case measure => simp [intOf]
        · have HQ := Lib.hid ho
          clear ho
          go_wp2_with fail
          go_ret
          exact ⟨_, rfl, HQ.out, hB⟩

/-! ### slices.BinarySearchFunc by the slot -/
theorem by_slot (x : E) (s : Int) (w : World) (h0 : -9223372036854775808 ≤ x.s - s) (h1 : x.s - s ≤ 9223372036854775807) :
    Calls Try.prog 73 #[.agg #[.int .i64 x.a, .int .i64 x.n, .int .i64 x.s], .int .i64 s] w fun e w' => e = .returned (.int .i64 (x.s - s)) ∧ Below w.heap.size w w' := by
  go_enter Try.func73, Try.ntmps73
  go_wp2
  go_ret
  exact ⟨rfl, (Below.refl _ _).onAlloc _⟩
/-- Where a slot is looked for: the runs before the index begin below it, the others do not. -/
structure Cutat (R : List E) (s : Int) (i j : Nat) : Prop where
  ij : i ≤ j
  jn : j ≤ R.length
  lo : ∀ k (h : k < R.length), k < i → R[k].s < s
  hi : ∀ k (h : k < R.length), j ≤ k → s ≤ R[k].s
theorem cut_start (R : List E) (s : Int) : Cutat R s 0 R.length := ⟨Nat.zero_le _, Nat.le_refl _, fun k _ h => absurd h (by omega), fun k h h2 => absurd h (by omega)⟩
theorem slots_mono {R : List E} (h : Canon R) {i j : Nat} (hi : i < R.length) (hj : j < R.length) (hij : i ≤ j) : R[i].s ≤ R[j].s := by
  rcases Nat.lt_or_ge i j with h1 | h1
  · have := List.pairwise_iff_getElem.1 h.2 i j hi hj h1
    have h2 := (okB_iff _).1 (h.1 _ (List.getElem_mem hi)).2
    omega
  · obtain rfl : i = j := by omega
    exact Int.le_refl _
theorem cut_right {R : List E} {s : Int} {i j : Nat} (hC : Canon R) (h : Cutat R s i j) (m : Nat) (hm : m < R.length) (h1 : i ≤ m) (h2 : m < j) (hlt : R[m].s < s) : Cutat R s (m + 1) j :=
  ⟨by omega, h.jn, fun k hk hkm => (by have := slots_mono hC hk hm (show k ≤ m by omega); omega), h.hi⟩
theorem cut_left {R : List E} {s : Int} {i j : Nat} (hC : Canon R) (h : Cutat R s i j) (m : Nat) (hm : m < R.length) (h1 : i ≤ m) (h2 : m < j) (hlt : ¬ R[m].s < s) : Cutat R s i m :=
  ⟨h1, by omega, h.lo, fun k hk hkm => (by have := slots_mono hC hm hk hkm; omega)⟩
/-- A run holds the slot. -/
def isL (R : List E) (s : Int) : Bool := R.any fun x => decide (x.s ≤ s) && decide (s < x.s + x.n)
theorem isL_iff (R : List E) (s : Int) : isL R s = true ↔ ∃ x ∈ R, x.s ≤ s ∧ s < x.s + x.n := by
  simp [isL]
theorem isL_found {R : List E} {s : Int} (hC : Canon R) (i : Nat) (hi : i < R.length) (h : R[i].s = s) : isL R s = true := by
  have := (okB_iff _).1 (hC.1 _ (List.getElem_mem hi)).2
  exact (isL_iff _ _).2 ⟨_, List.getElem_mem hi, by omega, by omega⟩
theorem isL_zero {R : List E} {s : Int} (h : Cutat R s 0 0) (hn : ∀ (hi : 0 < R.length), R[0].s ≠ s) (hC : Canon R) : isL R s = false := by
  rw [Bool.eq_false_iff]
  intro hc
  obtain ⟨x, hx, h1, h2⟩ := (isL_iff _ _).1 hc
  obtain ⟨k, hk, rfl⟩ := List.getElem_of_mem hx
  have h3 := h.hi k hk (Nat.zero_le _)
  have h4 := slots_mono hC (show 0 < R.length by omega) hk (Nat.zero_le _)
  have h5 := h.hi 0 (by omega) (Nat.le_refl _)
  have h6 := hn (by omega)
  omega
theorem isL_pred {R : List E} {s : Int} (i : Nat) (hC : Canon R) (h : Cutat R s (i + 1) (i + 1)) (hn : ∀ (hi : i + 1 < R.length), R[i + 1].s ≠ s) (hi : i < R.length) : isL R s = decide (s < R[i].s + R[i].n) := by
  rw [Bool.eq_iff_iff, isL_iff, decide_eq_true_eq]
  constructor
  · rintro ⟨x, hx, h1, h2⟩
    obtain ⟨k, hk, rfl⟩ := List.getElem_of_mem hx
    rcases Nat.lt_trichotomy k i with h3 | h3 | h3
    · have := List.pairwise_iff_getElem.1 hC.2 k i hk hi h3
      have := (okB_iff _).1 (hC.1 _ (List.getElem_mem hi)).2
      omega
    · subst h3; exact h2
    · have h4 := h.hi k hk (by omega)
      have h5 := hn (by omega)
      have h6 := slots_mono hC (show i + 1 < R.length by omega) hk (by omega)
      have h7 := h.hi (i + 1) (by omega) (Nat.le_refl _)
      omega
  · intro h2
    exact ⟨_, List.getElem_mem hi, by have := h.lo i hi (by omega); omega, h2⟩
def FoundAt (R : List E) (s : Int) (w : World) (e : Ending) (w' : World) : Prop :=
  ∃ (i : Nat) (f : Bool), e = .returned (.tuple #[.int .i64 i, .bool f]) ∧ Cutat R s i i ∧ (f = true → ∃ h : i < R.length, R[i].s = s) ∧ (f = false → ∀ h : i < R.length, R[i].s ≠ s) ∧ Below w.heap.size w w'
theorem found_at {R : List E} {s : Int} {w w' : World} {e : Ending} (i : Nat) (f : Bool) (hc : Cutat R s i i) (h1 : f = true → ∃ h : i < R.length, R[i].s = s) (h2 : f = false → ∀ h : i < R.length, R[i].s ≠ s) (hb : Below w.heap.size w w') (he : e = .returned (.tuple #[.int .i64 i, .bool f])) : FoundAt R s w e w' := ⟨i, f, he, hc, h1, h2, hb⟩
set_option maxRecDepth 100000 in
set_option maxHeartbeats 4000000 in
theorem bsearch_any (R : List E) (s : Int) (a : Option Addr) (c : Nat) (w : World) (hr : Rd w a R) (hC : Canon R) (hs : -1 ≤ s ∧ s ≤ 65536) :
    Calls Try.prog 72 #[.slice a R.length c, .int .i64 s, .func (.func 73) #[] #[]] w (FoundAt R s w) := by
  have hS := canon_short hC
  have HC := Lib.hid hC
  clear hC
  obtain ⟨s0, s1⟩ := hs
  go_enter Try.func72, Try.ntmps72
  go_wp2_with fail
  go_loopw [9, 10, 11] (fun i j _ wr => ∃ p q : Nat, i = .int .i64 p ∧ j = .int .i64 q ∧ Cutat R s p q ∧ Below w.heap.size w wr) (fun i j _ _ => (intOf j).toNat - (intOf i).toNat)
  case atStart => exact ⟨0, R.length, rfl, rfl, cut_start R s, Below.refl _ _⟩
  case round =>
    obtain ⟨p, q, rfl, rfl, hcut, hB⟩ := hrel
    have HCut := Lib.hid hcut
    have hpq := hcut.ij
    have hqn := hcut.jn
    clear hcut
    by_cases hlt : p < q
    · obtain ⟨m, hm⟩ : ∃ m, m = (p + q) / 2 := ⟨_, rfl⟩
      have hmn : m < R.length := by omega
      obtain ⟨b, o, rfl, hat⟩ := (hr.keep hB).at (by omega)
      obtain ⟨h1, h2, h3⟩ := hat m _ (List.getElem?_eq_getElem hmn)
      have hok := (okB_iff _).1 (HC.out.1 _ (List.getElem_mem hmn)).2
      have HRt := Lib.hid (cut_right HC.out HCut.out m hmn (by omega) (by omega))
      have HLt := Lib.hid (cut_left HC.out HCut.out m hmn (by omega) (by omega))
      have hm1 : p ≤ m := by omega
      have hm2 : m < q := by omega
      have q1 : ((p : Int) + q) / 2 = m := by omega
      generalize R[m] = x at *
      clear hat hr hm
      by_cases hx : x.s < s
      · have HX := Lib.hid (HRt.out hx)
        have e1 : decide (x.s - s < 0) = true := decide_eq_true (by omega)
        go_wp2_with fail
        refine (by_slot x s _ (by omega) (by omega)).mono ?_
        rintro e w2 ⟨rfl, hb2⟩
        have hB2 := hB.on hb2
        clear hb2
        go_wp2_with fail
        go_roundw
        case rel => exact ⟨m + 1, q, by go_num, rfl, HX.out, hB2⟩
        case measure => simp [intOf]; omega
      · have HX := Lib.hid (HLt.out hx)
        have e1 : decide (x.s - s < 0) = false := decide_eq_false (by omega)
        go_wp2_with fail
        refine (by_slot x s _ (by omega) (by omega)).mono ?_
        rintro e w2 ⟨rfl, hb2⟩
        have hB2 := hB.on hb2
        clear hb2
        go_wp2_with fail
        go_roundw
        case rel => exact ⟨p, m, rfl, by go_num, HX.out, hB2⟩
        case measure => simp [intOf]; omega
    · obtain rfl : p = q := by omega
      by_cases hlp : p < R.length
      · obtain ⟨b, o, rfl, hat⟩ := (hr.keep hB).at (by omega)
        obtain ⟨h1, h2, h3⟩ := hat p _ (List.getElem?_eq_getElem hlp)
        have hok := (okB_iff _).1 (HC.out.1 _ (List.getElem_mem hlp)).2
        generalize hx : R[p] = x at *
        have HX := Lib.hid hx
        clear hat hr hx
        by_cases he : x.s = s
        · have HE := Lib.hid he
          have e1 : (x.s - s == 0) = true := by simp; omega
          clear he
          go_wp2_with fail
          refine (by_slot x s _ (by omega) (by omega)).mono ?_
          rintro e w2 ⟨rfl, hb2⟩
          have hB2 := hB.on hb2
          clear hb2
          go_wp2_with fail
          go_ret2
          exact found_at p true HCut.out (fun _ => ⟨hlp, by rw [HX.out]; exact HE.out⟩) (fun h => by cases h) hB2 rfl
        · have HE := Lib.hid he
          have e1 : (x.s - s == 0) = false := by simp; omega
          clear he
          go_wp2_with fail
          refine (by_slot x s _ (by omega) (by omega)).mono ?_
          rintro e w2 ⟨rfl, hb2⟩
          have hB2 := hB.on hb2
          clear hb2
          go_wp2_with fail
          go_ret2
          exact found_at p false HCut.out (fun h => by cases h) (fun _ _ => by rw [HX.out]; exact HE.out) hB2 rfl
      · clear hr
        go_wp2_with fail
        go_ret2
        exact found_at p false HCut.out (fun h => by cases h) (fun _ h => absurd h (by omega)) hB rfl
def IsPost (R : List E) (s : Int) (w : World) (e : Ending) (w' : World) : Prop := e = .returned (.bool (isL R s)) ∧ Below w.heap.size w w'
set_option maxRecDepth 100000 in
set_option maxHeartbeats 4000000 in
theorem is_any (N : Int) (R : List E) (s : Int) (a : Option Addr) (c : Nat) (w : World) (hr : Rd w a R) (hC : Canon R) (hs : -1 ≤ s ∧ s ≤ 65536) :
    Calls Try.prog 41 #[.agg #[.int .i64 N, .slice a R.length c], .int .i64 s] w (IsPost R s w) := by
  have hS := canon_short hC
  have hk := (Below.refl w.heap.size w).onAlloc (.cells #[.int .i64 N, .slice a R.length c] 58)
  have HR := Lib.hid (hr.keep hk)
  have HC := Lib.hid hC
  clear hC hr
  go_enter Try.func41, Try.ntmps41
  go_wp2_with fail
  refine (bsearch_any R s a c _ HR.out HC.out hs).mono ?_
  rintro e w2 ⟨i, f, rfl, hcut, hf1, hf2, hb2⟩
  have hB2 := hk.on hb2
  have hc1 := hb2.keep (a := ⟨w.heap.size, 1, none⟩) (v := .slice a R.length c) (by simp)
  cases f
  · have hf := hf2 rfl
    cases i with
    | zero =>
      have HI := Lib.hid (isL_zero hcut hf HC.out)
      clear hf1 hf2 hf hcut hb2
      go_wp2_with fail
      go_ret
      exact ⟨ret_bool (by rw [HI.out]), hB2⟩
    | succ i =>
      have hin := hcut.jn
      have hil : i < R.length := by omega
      have HI := Lib.hid (isL_pred i HC.out hcut hf hil)
      obtain ⟨b, o, rfl, hat⟩ := (HR.out.keep hb2).at (by omega)
      obtain ⟨h1, h2, h3⟩ := hat i _ (List.getElem?_eq_getElem hil)
      have hok := (okB_iff _).1 (HC.out.1 _ (List.getElem_mem hil)).2
      generalize hx : R[i] = x at *
      have q1 : ((i + 1 : Nat) : Int) - 1 = i := by omega
      have q2 : (0 : Int) < ((i + 1 : Nat) : Int) := by omega
      clear hat hf1 hf2 hf hcut hb2 hx HR
      go_wp2_with fail
      refine (aend_any x.a x.n x.s _ (by omega) (by omega)).mono ?_
      rintro e w3 ⟨rfl, hb3⟩
      have hB3 := hB2.on hb3
      go_wp2_with fail
      go_ret
      exact ⟨ret_bool (by rw [HI.out] <;> simp), hB3⟩
  · have hf := hf1 rfl
    obtain ⟨hi, he⟩ := hf
    have HI := Lib.hid (isL_found HC.out i hi he)
    clear hf1 hf2 hcut hb2 he
    go_wp2_with fail
    go_ret
    exact ⟨ret_bool (by rw [HI.out]), hB2⟩
end Go.Proofs.Ytolhajkbamhdgaa
