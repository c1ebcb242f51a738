/-
  package scan: newer, the order of found entries, the map of the newest ones, as read.
  Conditions: as each theorem says.
-/
import Derived.Test.YtbiecglooagmmaaScK
import Derived.Maps.RangeWalk
import Derived.Maps.Views
import Derived.Shelf.SlSortCmp.WholeK
import Derived.Shelf.SlSortCmp.NoneTotal
import Derived.Shelf.Lay
import Derived.Ground.SlsfProg
namespace Go.Proofs.Ytbiecglooagmmaa
set_option linter.unusedSimpArgs false
set_option linter.unusedVariables false
set_option maxRecDepth 100000
open Go.RowKit Go.Maps Go.Shelf Go.Sort

/-! ### The map -/
def heldC (v : Value) : Option (DataW Value × List MemPlace) := some (.held v, [])
theorem heldC_mk (v : Value) : heldC v = some (.held v, []) := rfl
def cdV (r : Int) (c : Cd) : Value := .agg #[.int .i64 c.e.kind, .int .i64 c.e.block, .int .u64 c.e.ver, byV c.e.d0, byV c.e.d1, byV c.e.d2, byV c.e.d3, byV c.e.d4, byV c.e.d5, byV c.e.d6, byV c.e.d7, .int .i64 (r + c.i), .int .u64 c.t]
theorem intKeyed : Keyed Try.prog 3 := int_keyed Try.underlying3
theorem intWf {b : Int} (h : 0 ≤ b ∧ b < 65536) : (Lit.int .i64 b).wf = true := by
  simp [Lit.wf, IntKind.min, IntKind.max, IntKind.signed, IntKind.bits]
  omega
theorem intKey {b : Int} (h : 0 ≤ b ∧ b < 65536) : keyOf Try.prog 3 (.int .i64 b) = some (.int .i64 b) := keyOf_int_mk (k := 3) Try.underlying3 (intWf h)
/-- The map holds the newest candidates of the first k sectors. -/
structure NwM (D : DataW Value) (r bl : Int) (L : List (List UInt8)) (k : Nat) : Prop where
  im : IsMap D
  has : ∀ b : Int, Maps.has D (.int .i64 b) = (best bl L b k).isSome
  at_ : ∀ (b : Int) (c : Cd), best bl L b k = some c → ∀ zd, D.atKey (.int .i64 b) zd = .held (cdV r c)
abbrev mapC (w : World) (bm n : Nat) (D : DataW Value) : Prop := w.ownsMap Try.prog 3 heldC bm n D
theorem NwM.empty (r bl : Int) (L : List (List UInt8)) : NwM (.map []) r bl L 0 := ⟨isMap_empty, fun _ => rfl, fun _ _ h => by cases h⟩
/-- A sector that holds no candidate. -/
theorem NwM.none {D : DataW Value} {r bl : Int} {L : List (List UInt8)} {k : Nat} (h : NwM D r bl L k) (hc : cand bl (L.getD k []) = none) : NwM D r bl L (k + 1) := by
  have e : ∀ b, best bl L b (k + 1) = best bl L b k := fun b => by rw [best, hc]
  exact ⟨h.im, fun b => by rw [e]; exact h.has b, fun b c hb => h.at_ b c (by rw [← e]; exact hb)⟩
/-- A candidate that is no newer one. -/
theorem NwM.keep {D : DataW Value} {r bl : Int} {L : List (List UInt8)} {k : Nat} {e : Ent} {t : Int} {x : Cd} (h : NwM D r bl L k) (hc : cand bl (L.getD k []) = some (e, t)) (hx : best bl L e.block k = some x) (hn : newer ⟨e, t, k⟩ x = false) : NwM D r bl L (k + 1) := by
  have eq : ∀ b, best bl L b (k + 1) = best bl L b k := fun b => by
    rw [best, hc]
    by_cases hb : e.block = b
    · subst hb
      simp [stepC, hx, hn]
    · simp [hb]
  exact ⟨h.im, fun b => by rw [eq]; exact h.has b, fun b c hb => h.at_ b c (by rw [← eq]; exact hb)⟩
/-- The newest one so far. -/
theorem NwM.put {D : DataW Value} {r bl : Int} {L : List (List UInt8)} {k : Nat} {e : Ent} {t : Int} (h : NwM D r bl L k) (hc : cand bl (L.getD k []) = some (e, t)) (hn : ∀ x, best bl L e.block k = some x → newer ⟨e, t, k⟩ x = true) : NwM (D.put (.int .i64 e.block) (.held (cdV r ⟨e, t, k⟩))) r bl L (k + 1) := by
  have same : best bl L e.block (k + 1) = some ⟨e, t, k⟩ := by
    rw [best, hc]
    simp only [if_true]
    unfold stepC
    cases hq : best bl L e.block k with
    | none => rfl
    | some x => simp [hn x hq]
  have oth : ∀ b, b ≠ e.block → best bl L b (k + 1) = best bl L b k := fun b hb => by
    rw [best, hc]
    simp [Ne.symm hb]
  have hk : WideAt.IsKeyLit (.int .i64 e.block) := trivial
  refine ⟨h.im.put _ _, fun b => ?_, fun b c hb zd => ?_⟩
  · by_cases e1 : b = e.block
    · subst e1
      rw [has_put_same h.im hk, same]
      rfl
    · rw [has_put_other (by intro e2; injection e2 with _ e2; exact e1 e2), oth b e1]
      exact h.has b
  · by_cases e1 : b = e.block
    · subst e1
      rw [same] at hb
      injection hb with hb
      subst hb
      exact atKey_put_same h.im hk _ _
    · rw [atKey_put_other (by intro e2; injection e2 with _ e2; exact e1 e2)]
      exact h.at_ b c (by rw [← oth b e1]; exact hb) zd
def zeroCdV : Value := .agg #[.int .i64 0, .int .i64 0, .int .u64 0, .int .u8 0, .int .u8 0, .int .u8 0, .int .u8 0, .int .u8 0, .int .u8 0, .int .u8 0, .int .u8 0, .int .i64 0, .int .u64 0]
theorem zeroCd (w : World) : (zeroValue 58).run Try.prog w = .ok zeroCdV w := by kernel_rfl
def lookC (r : Int) (o : Option Cd) : Value := match o with
  | some c => cdV r c
  | none => zeroCdV
theorem look_cd {w : World} {bm n : Nat} {D : DataW Value} {r bl : Int} {L : List (List UInt8)} {k : Nat} (h : mapC w bm n D) (hm : NwM D r bl L k) {b : Int} (hb : 0 ≤ b ∧ b < 65536) :
    (Instr.lookup 55 (.map (some bm)) (.int .i64 b) true).run Try.prog w = .ok (.tuple #[lookC r (best bl L b k), .bool (best bl L b k).isSome]) w := by
  obtain ⟨v, ps, hrun, hv⟩ := h.look_ok intKeyed Try.underlying55 (zeroCd w) (heldC_mk _) (intKey hb)
  rw [hrun, hm.has]
  unfold lookC
  cases hq : best bl L b k with
  | none =>
    have hh := hm.has b
    rw [hq] at hh
    rw [atKey_of_not_has hh, heldC_mk] at hv
    simp only [Option.some.injEq, Prod.mk.injEq, DataW.held.injEq] at hv
    rw [hv.1]
  | some c =>
    rw [hm.at_ b c hq, heldC_mk] at hv
    simp only [Option.some.injEq, Prod.mk.injEq, DataW.held.injEq] at hv
    rw [hv.1]
set_option maxHeartbeats 4000000 in
theorem newer_any (r : Int) (x y : Cd) (w : World) : Calls Try.prog 23 #[cdV r x, cdV r y] w fun e w' => e = .returned (.bool (newer x y)) ∧ Below w.heap.size w w' := by
  obtain ⟨⟨ki, bk, vr, d0, d1, d2, d3, d4, d5, d6, d7⟩, tm, ci⟩ := x
  obtain ⟨⟨kx, bx, vx, e0, e1, e2, e3, e4, e5, e6, e7⟩, tx, cx⟩ := y
  unfold cdV newer
  simp only [byV]
  have HB := Lib.hid (fun C C' => ((Below.refl w.heap.size w).onAlloc (.cells C 58)).onAlloc (.cells C' 58))
  have HC : Hid (vx < vr ∨ (vr = vx ∧ tx < tm) ∨ (vr = vx ∧ ¬ tx < tm) ∨ vr < vx) := Lib.hid (by omega)
  obtain ⟨q, hq⟩ : ∃ q, decide (vx < vr ∨ vr = vx ∧ tx < tm) = q := ⟨_, rfl⟩
  rw [hq]
  have HQ := Lib.hid hq
  clear hq
  go_enter Try.func23, Try.ntmps23
  go_wp2_with fail
  refine wp_region_next (by kernel_rfl) (by kernel_rfl) ?_
  repeat (go_big_quiet_step (fail))
  refine wpQuiet_nil ?_
  intro _ hw'
  obtain ⟨nq, hw''⟩ := hw'
  subst hw''
  go_wp2_with fail
  all_goals
    go_ret
    refine ⟨bool_ends ?_, (HB.out _ _).onNext _⟩
    rw [← HQ.out]
    clear HQ HC HB
    (first | (rw [Bool.eq_iff_iff]; simp only [decide_eq_true_eq, Bool.false_eq_true, true_iff, false_iff, iff_true, iff_false]; omega) | (simp_all; done) | (simp_all; omega))
/-! ### The order of found entries -/
instance : Inhabited Cd := ⟨⟨zeroE, 0, 0⟩⟩
set_option maxHeartbeats 4000000 in
theorem scmp_any (r : Int) (x y : Cd) (W : World) (hx : 0 ≤ x.e.block ∧ x.e.block < 65536) (hy : 0 ≤ y.e.block ∧ y.e.block < 65536) : Calls Try.prog 25 #[.agg (fdC r x).toArray, .agg (fdC r y).toArray] W fun e w' =>
    e = .returned (.int .i64 (x.e.block - y.e.block)) ∧ ∃ q os', w' = Sort.grow (W.drewN q) os' := by
  obtain ⟨⟨ki, bk, vr, d0, d1, d2, d3, d4, d5, d6, d7⟩, tm, ci⟩ := x
  obtain ⟨⟨kx, bx, vx, e0, e1, e2, e3, e4, e5, e6, e7⟩, tx, cx⟩ := y
  simp only at hx hy
  have hw : IntKind.i64.wrap (bk - bx) = bk - bx := IntWalk.i64_in _ (by omega)
  obtain ⟨h1, h2⟩ := hx
  obtain ⟨h3, h4⟩ := hy
  unfold fdC
  simp only [byV]
  go_enter Try.func25, Try.ntmps25
  go_wp2_with fail
  go_ret
  exact ⟨rfl, 0, _, by rw [alloc_eq_grow, alloc_eq_grow, grow_grow]; rfl⟩
end Go.Proofs.Ytbiecglooagmmaa
