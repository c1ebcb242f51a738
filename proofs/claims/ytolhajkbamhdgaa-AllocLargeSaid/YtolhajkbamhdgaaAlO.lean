/-
  The example of chapter 35: run, awake.
  Conditions: as each theorem says.
-/
import Derived.Test.YtolhajkbamhdgaaAlN
import Derived.Test.YtolhajkbamhdgaaTgO
import Derived.Deep.CutRange
import Derived.Deep.RegionHeld3
namespace Go.Proofs.Ytolhajkbamhdgaa
set_option linter.unusedSimpArgs false
set_option linter.unusedVariables false
open Go.RowKit

set_option maxRecDepth 100000 in
set_option maxHeartbeats 1000000 in
theorem run35_any (s n : Int) (w : World) :
    Calls Try.prog 36 #[.int .i64 s, .int .i64 n] w fun e w' => ∃ g, w.heap.size ≤ g ∧ e = .returned (.slice (some ⟨g, 0, none⟩) 1 1) ∧ OwnE w' w.heap.size (.slice (some ⟨g, 0, none⟩) 1 1) [⟨0, n, s⟩] ∧ Below w.heap.size w w' := by
  go_enter Try.func36, Try.ntmps36
  go_wp2_with fail
  go_ret
  exact ⟨_, Nat.le_refl _, rfl, OwnE.lit w #[.int .i64 0, .int .i64 n, .int .i64 s] [⟨0, n, s⟩] rfl (by simp [maxLen]) _ (Nat.le_refl _), (Below.refl _ _).onAlloc _⟩
theorem freeR_of {M : List Bool} {R : List E} (hN : M.length ≤ 65536) (hC : Canon R) (h : ∀ i, i < M.length → hasB R i = freeF M i) (hp : permB M.length R = true) : freeR M = R := by
  refine runs_ext (freeR_canon _) hC fun i _ => ?_
  rw [hasB_free M hN]
  rcases Nat.lt_or_ge i M.length with h1 | h1
  · exact (h i h1).symm
  · rw [freeF_far M i h1, ← listF_canon hC, listF_far hp i h1]
def takeR (R : List E) (n h : Nat) : List E :=
  if n = 0 then [] else
  match fitS (fromL R h) n with
  | some s => [⟨0, n, s⟩]
  | none => match fitS R n with
    | some s => [⟨0, n, s⟩]
    | none => piecesR R n h
theorem takeL_R (M : List Bool) (n h : Nat) : takeL M n h = takeR (freeR M) n h := rfl
def M10 : List Bool := [false, false, true, true, true, false, false, false, true, false]
theorem free10 : freeR M10 = [⟨0, 2, 0⟩, ⟨0, 3, 5⟩, ⟨0, 1, 9⟩] := by
  refine freeR_of (by decide) ⟨by decide, by decide⟩ (fun i hi => ?_) (by decide)
  have : i < 10 := hi
  rcases (by omega : i = 0 ∨ i = 1 ∨ i = 2 ∨ i = 3 ∨ i = 4 ∨ i = 5 ∨ i = 6 ∨ i = 7 ∨ i = 8 ∨ i = 9) with rfl | rfl | rfl | rfl | rfl | rfl | rfl | rfl | rfl | rfl <;> decide
theorem take10a : takeL M10 2 4 = [⟨0, 2, 5⟩] := by rw [takeL_R, free10]; exact (sameB_iff _ _).1 (by decide)
theorem take10b : takeL M10 2 7 = [⟨0, 2, 0⟩] := by rw [takeL_R, free10]; exact (sameB_iff _ _).1 (by decide)
theorem take10c : takeL M10 4 6 = [⟨0, 2, 6⟩, ⟨0, 1, 9⟩, ⟨0, 1, 0⟩] := by rw [takeL_R, free10]; exact (sameB_iff _ _).1 (by decide)
theorem mark10 : rangeB 10 [⟨0, 3, 2⟩, ⟨0, 1, 8⟩] = true ∧ stN (List.replicate 10 false) [⟨0, 3, 2⟩, ⟨0, 1, 8⟩] true = 0 ∧ chgM (List.replicate 10 false) [⟨0, 3, 2⟩, ⟨0, 1, 8⟩] true = M10 :=
  ⟨range_yes (by omega) (by decide) (by decide), by decide, by decide⟩
theorem area10 : area (freeF M10) 10 = 6 := by decide

theorem amark_is (M : List Bool) (l : List E) (N : Int) (R : List E) (r k : Nat) (a al : Option Addr) (c cl : Nat) (w : World) (h1 : (M.length : Int) = N) (h2 : freeR M = R) (h3 : R.length = r) (h4 : l.length = k) (hN : M.length ≤ 65536) (hrR : Rd w a R) (hr : Rd w al l) (hw : wfL l) (hl : l.length ≤ 1000000) :
    Calls Try.prog 66 #[.agg #[.int .i64 N, .slice a r c], .slice al k cl] w (AChg M l true a w) := by
  subst h1 h2 h3 h4
  exact amark_any M l a al c cl w hN hrR hr hw hl
def ATookN (M : List Bool) (n h : Nat) (N : Int) (w : World) (e : Ending) (w' : World) : Prop :=
  ∃ v1 a' r' c', e = .returned (.tuple #[v1, .agg #[.int .i64 N, .slice a' r' c'], .int .i64 0]) ∧ OwnE w' w.heap.size v1 (takeL M n h) ∧ Below w.heap.size w w'
theorem atake_is (M : List Bool) (n h : Nat) (N m h' : Int) (R : List E) (r : Nat) (a : Option Addr) (c : Nat) (w : World) (h1 : (M.length : Int) = N) (h2 : freeR M = R) (h3 : R.length = r) (h4 : (n : Int) = m) (h5 : (h : Int) = h') (hN : M.length ≤ 65536) (hrR : Rd w a R) (hh : h ≤ M.length) (hn : 1 ≤ n) (hf : n ≤ area (freeF M) M.length) :
    Calls Try.prog 35 #[.agg #[.int .i64 N, .slice a r c], .int .i64 m, .int .i64 h'] w (ATookN M n h N w) := by
  subst h1 h2 h3 h4 h5
  exact (atake_yes M n h a c w hrR hN hh hn hf).mono fun e w' ⟨v1, v2, he, ho, ⟨a', c', hv, _, _⟩, hb⟩ => ⟨v1, a', (freeR (chgM M (takeL M n h) true)).length, c', by rw [he, hv], ho, hb⟩
theorem atake_no (M : List Bool) (n h N : Int) (R : List E) (r : Nat) (a : Option Addr) (c : Nat) (w : World) (h1 : (M.length : Int) = N) (h2 : freeR M = R) (h3 : R.length = r) (hN : M.length ≤ 65536) (hrR : Rd w a R) (hok : askB M.length n h = true) (hf : lenL R < n) :
    Calls Try.prog 35 #[.agg #[.int .i64 N, .slice a r c], .int .i64 n, .int .i64 h] w fun e w' => e = .returned (.tuple #[.slice none 0 0, .agg #[.int .i64 0, .slice none 0 0], .int .i64 11]) ∧ Below w.heap.size w w' := by
  subst h1 h2 h3
  exact atake_space M.length (freeR M) n h a c w hN hrR (freeR_canon M) hok hf
theorem afree_lit (N : Int) (R : List E) (z : Int) (r : Nat) (a : Option Addr) (c : Nat) (w : World) (h3 : R.length = r) (hz : lenL R = z) (hr : Rd w a R) (hc : Canon R) :
    Calls Try.prog 37 #[.agg #[.int .i64 N, .slice a r c]] w fun e w' => e = .returned (.int .i64 z) ∧ Below w.heap.size w w' := by
  subst h3
  exact afree_is N R z a c w hz hr hc
/-- m lies in block T. -/
structure Aw35 (w0 W : World) (T : Nat) (R : List E) (r : Nat) (a : Option Addr) (c : Nat) : Prop where
  t0 : W.cell? ⟨T, 0, none⟩ = some (.int .i64 10)
  t1 : W.cell? ⟨T, 1, none⟩ = some (.slice a r c)
  g0 : W.frozen? ⟨T, 0, none⟩ = false
  g1 : W.frozen? ⟨T, 1, none⟩ = false
  r : Rd W a R
  B : Below w0.heap.size w0 W
theorem Aw35.later {w0 W W' : World} {T : Nat} {R : List E} {r : Nat} {a : Option Addr} {c : Nat} (h : Aw35 w0 W T R r a c) (hb : Below W.heap.size W W') : Aw35 w0 W' T R r a c :=
  ⟨hb.keep h.t0, hb.keep h.t1, hb.keepF h.t0 h.g0, hb.keepF h.t1 h.g1, h.r.keep hb, h.B.on hb⟩
theorem Aw35.put {w0 W : World} {T : Nat} {R R' : List E} {r : Nat} {a a' : Option Addr} {c c' : Nat} (h : Aw35 w0 W T R r a c) (hT : w0.heap.size ≤ T) (hr : Rd W a' R') (ha : Away (R' = []) a' T) (r' : Nat) :
    Aw35 w0 ((W.setCell ⟨T, 0, none⟩ (.int .i64 10)).setCell ⟨T, 1, none⟩ (.slice a' r' c')) T R' r' a' c' := by
  have e1 : (W.setCell ⟨T, 0, none⟩ (.int .i64 10)).cell? ⟨T, 1, none⟩ = some (.slice a r c) := by
    rw [World.cell?_setCell_other _ _ _ _ (by simp)]; exact h.t1
  refine ⟨?_, World.cell?_setCell_same _ _ _ e1, by rw [World.frozen?_setCell, World.frozen?_setCell]; exact h.g0, by rw [World.frozen?_setCell, World.frozen?_setCell]; exact h.g1, (hr.cell_ne _ _ _ ha).cell_ne _ _ _ ha, (h.B.setCell hT _).setCell hT _⟩
  rw [World.cell?_setCell_other _ _ _ _ (by simp)]
  exact World.cell?_setCell_same _ _ _ h.t0
def AwC35 (w0 : World) (T : Nat) (v : Value) (wx : World) : Prop :=
  v = .int .i64 0 ∧ ∃ a c, Aw35 w0 wx T [⟨0, 2, 0⟩, ⟨0, 3, 5⟩, ⟨0, 1, 9⟩] 3 a c
theorem aw_marked {w w' : World} {e : Ending} {a : Option Addr} (h : (rangeB (List.replicate 10 false).length [⟨0, 3, 2⟩, ⟨0, 1, 8⟩] = false ∧ e = .returned (.tuple #[.agg #[.int .i64 0, .slice none 0 0], .int .i64 2])) ∨
    (rangeB (List.replicate 10 false).length [⟨0, 3, 2⟩, ⟨0, 1, 8⟩] = true ∧ stN (List.replicate 10 false) [⟨0, 3, 2⟩, ⟨0, 1, 8⟩] true ≠ 0 ∧ e = .returned (.tuple #[.agg #[.int .i64 0, .slice none 0 0], .int .i64 8])) ∨
    (rangeB (List.replicate 10 false).length [⟨0, 3, 2⟩, ⟨0, 1, 8⟩] = true ∧ stN (List.replicate 10 false) [⟨0, 3, 2⟩, ⟨0, 1, 8⟩] true = 0 ∧ ∃ v, e = .returned (.tuple #[.agg #[.int .i64 (List.replicate 10 false).length, v], .int .i64 0]) ∧ NewRuns w w' a (freeR (List.replicate 10 false)) (freeR (chgM (List.replicate 10 false) [⟨0, 3, 2⟩, ⟨0, 1, 8⟩] true)) v))
    (k1 : rangeB 10 [⟨0, 3, 2⟩, ⟨0, 1, 8⟩] = true) (k2 : stN (List.replicate 10 false) [⟨0, 3, 2⟩, ⟨0, 1, 8⟩] true = 0) (k3 : chgM (List.replicate 10 false) [⟨0, 3, 2⟩, ⟨0, 1, 8⟩] true = M10) (k4 : freeR M10 = [⟨0, 2, 0⟩, ⟨0, 3, 5⟩, ⟨0, 1, 9⟩]) :
    ∃ a' c', e = .returned (.tuple #[.agg #[.int .i64 10, .slice a' 3 c'], .int .i64 0]) ∧ Rd w' a' [⟨0, 2, 0⟩, ⟨0, 3, 5⟩, ⟨0, 1, 9⟩] ∧ Fresh (freeR (List.replicate 10 false) = []) (([⟨0, 2, 0⟩, ⟨0, 3, 5⟩, ⟨0, 1, 9⟩] : List E) = []) w.heap.size a a' := by
  rw [k3, k4, List.length_replicate] at h
  rcases h with ⟨h, _⟩ | ⟨_, h, _⟩ | ⟨_, _, v, he, a', c', rfl, hr, hf⟩
  · rw [k1] at h; cases h
  · exact absurd k2 h
  · exact ⟨a', c', he, hr, hf⟩
theorem wpList_ungd {P : Program} {ops : Array Oper} {rest : List Oper} {o : Oper} {a : Act} {w : World} {Q : Exit → Act → World → Prop} (hw : Region.wanted o (yielded ops a.tmps) = true) (h : wpList P ops Q ({ o with guard := none } :: rest) a w) : wpList P ops Q (o :: rest) a w := by
  unfold wpList at h ⊢
  rw [if_pos hw]
  rw [if_pos (by simp [Region.wanted])] at h
  exact h
set_option maxRecDepth 100000 in
set_option maxHeartbeats 8000000 in
theorem awake35_any (w : World) : Calls Try.prog 33 #[] w fun e w' => e = .returned (.bool true) ∧ Below w.heap.size w w' := by
  obtain ⟨k1, k2, k3⟩ := mark10
  have HK1 := Lib.hid k1
  have HK2 := Lib.hid k2
  have HK3 := Lib.hid k3
  have HZ0 : Hid (freeR (List.replicate 10 false) = [⟨0, 10, 0⟩]) := Lib.hid (freeR_zeros 10 (by omega))
  have HF := Lib.hid free10
  clear k1 k2 k3
  go_enter Try.func33, Try.ntmps33
  go_wp2_with fail
  refine (anew_yes 10 _ (by omega) (by omega)).mono ?_
  rintro e w1 ⟨v, rfl, ho1, hb1⟩
  obtain ⟨a1, c1, rfl, hr1⟩ := ho1.rd (by simp)
  have hlt1 := hr1.lt
  go_upto_region 2 with fail
  have hS : Aw35 w (w1.alloc (.cells #[.int .i64 10, .slice a1 1 c1] 58)) w1.heap.size [⟨0, 10, 0⟩] 1 a1 c1 :=
    ⟨by simp, by simp, by simp, by simp, hr1.keep ((Below.refl w1.heap.size w1).onAlloc (.cells #[.int .i64 10, .slice a1 1 c1] 58)), hb1.onAlloc (.cells #[.int .i64 10, .slice a1 1 c1] 58)⟩
  have hT := hb1.size
  have HAW := Lib.hid (away_lt (g := w1.heap.size) hlt1 (Nat.le_refl _))
  generalize w1.alloc (.cells #[.int .i64 10, .slice a1 1 c1] 58) = W1 at *
  generalize w1.heap.size = T at *
  clear hb1 ho1 hr1 hlt1
  obtain ⟨i0, hi, hz0, hz1, hz2⟩ := info_parts infoE
  go_cut [3] from 3 to 27 (fun v wx => AwC35 w T v wx)
  case first =>
    have HSS := Lib.hid (hS.later (Below.refl _ _).drew)
    have HBB := Lib.hid (Below.refl W1.drew.heap.size W1.drew)
    have t0 := HSS.out.t0
    have t1 := HSS.out.t1
    have g0 := HSS.out.g0
    have g1 := HSS.out.g1
    have HW2 : Hid (wfL [⟨0, 3, 2⟩, ⟨0, 1, 8⟩]) := Lib.hid (by intro x hx; simp at hx; rcases hx with rfl | rfl <;> simp [E.wf])
    clear hS
    go_region_law (first
      | (refine step_append_x _ (by rfl) (.tmp 22) (.tmp 23) 32 (by rfl) 0 41 i0 (.agg #[.int .i64 0, .int .i64 0, .int .i64 0]) 3 24 Try.underlying32 hi hz0 hz1 hz2 rfl (by decide) (.slice (some ⟨ga, 0, none⟩) 1 1) 1 (cellsL [⟨0, 3, 2⟩]) (by rfl) HOA.out ⟨gb, 0, none⟩ 1 1 (cellsL [⟨0, 1, 8⟩]) (by rfl) rfl (World.ownsRow.cells HOB.out (g := gb) rfl) (cellsL_one _) (by omega) (by simp [maxLen]) (Nat.zero_le _) ?_; intro v1 w4 hown1 hgrow1 hwhere1; have HBB := Lib.hid (HBB.out.onGrow hgrow1 (by intro j hj; injection hj with hj; subst hj; exact hga1)); have t0 := (HSS.out.later HBB.out).t0; have t1 := (HSS.out.later HBB.out).t1; have g0 := (HSS.out.later HBB.out).g0; have g1 := (HSS.out.later HBB.out).g1)
      | (go_simp; go_at_call_of 36 (Value.int .i64 2); refine (run35_any 2 3 _).mono ?_; rintro e wa ⟨ga, hga, rfl, hoa, hba⟩; have hga1 := Nat.le_trans HBB.out.size hga; have HOA := Lib.hid (hoa.mono (Nat.zero_le _)); (try (have HOB := Lib.hid (HOB.out.keep hba))); have HBB := Lib.hid (HBB.out.on hba); have t0 := (HSS.out.later HBB.out).t0; have t1 := (HSS.out.later HBB.out).t1; have g0 := (HSS.out.later HBB.out).g0; have g1 := (HSS.out.later HBB.out).g1)
      | (go_simp; go_at_call_of 36 (Value.int .i64 8); refine (run35_any 8 1 _).mono ?_; rintro e wb ⟨gb, hgb, rfl, hob, hbb⟩; have HOB := Lib.hid (hob.mono (Nat.zero_le _)); (try (have HOA := Lib.hid (HOA.out.keep hbb))); have HBB := Lib.hid (HBB.out.on hbb); have t0 := (HSS.out.later HBB.out).t0; have t1 := (HSS.out.later HBB.out).t1; have g0 := (HSS.out.later HBB.out).g0; have g1 := (HSS.out.later HBB.out).g1)
      | (go_simp; go_at_call 66; obtain ⟨ra, rc, rfl, hrl⟩ := (OwnE.append (l := [⟨0, 3, 2⟩]) (r := [⟨0, 1, 8⟩]) hown1 rfl).rd (by simp); refine (amark_is (List.replicate 10 false) [⟨0, 3, 2⟩, ⟨0, 1, 8⟩] 10 [⟨0, 10, 0⟩] 1 2 a1 ra c1 rc _ (by decide) HZ0.out rfl rfl (by decide) (HSS.out.later HBB.out).r hrl HW2.out (by simp)).mono ?_; rintro e w5 ⟨hb5, hp⟩; obtain ⟨a5, c5, rfl, hr5, hfr5⟩ := aw_marked hp HK1.out HK2.out HK3.out HF.out; have hTg : T < w4.heap.size := World.block_lt_of_cell? _ _ t0; have HBB := Lib.hid (HBB.out.on hb5); have t0 := (HSS.out.later HBB.out).t0; have t1 := (HSS.out.later HBB.out).t1; have g0 := (HSS.out.later HBB.out).g0; have g1 := (HSS.out.later HBB.out).g1))
    all_goals
      have HQ : Hid (AwC35 w T (.int .i64 0) ((w5.setCell ⟨T, 0, none⟩ (.int .i64 10)).setCell ⟨T, 1, none⟩ (.slice a5 3 c5))) := Lib.hid ⟨rfl, a5, c5, (HSS.out.later HBB.out).put hT hr5 (hfr5.away (by rw [HZ0.out]; exact HAW.out) hTg) 3⟩
      clear hb5 hr5 hfr5 hp hrl hown1 hgrow1 hwhere1 hoa hob hba hbb hga hgb hga1 t0 t1 g0 g1 HSS HBB HOA HOB
      go_wp2_with fail
      go_meet
      exact HQ.out
  case rest =>
    obtain ⟨rfl, am, cm, hS⟩ := hcut
    have HSS := Lib.hid hS
    obtain ⟨W2, rfl⟩ : ∃ W2 : World, W2 = wc := ⟨_, rfl⟩
    clear hS hT HAW HK1 HK2 HK3 HZ0
    have t0 := HSS.out.t0
    have t1 := HSS.out.t1
    have g0 := HSS.out.g0
    have g1 := HSS.out.g1
    go_wp2_with fail
    refine (atake_is M10 2 4 10 2 4 _ 3 am cm _ (by decide) free10 rfl rfl rfl (by decide) HSS.out.r (by decide) (by decide) (by decide)).mono ?_
    rintro e w' ⟨v1, a', r', c', rfl, ho, hb⟩
    rw [take10a] at ho
    have HSS := Lib.hid ((HSS.out.later hb).later ((Below.refl _ _).onAlloc (.cells #[.int .i64 10, .slice a' r' c'] 58)))
    clear t0 t1 g0 g1
    have t0 := HSS.out.t0
    have t1 := HSS.out.t1
    have g0 := HSS.out.g0
    have g1 := HSS.out.g1
    obtain ⟨aa, ca, rfl, hra⟩ := ho.rd (by simp)
    have HRA := Lib.hid (hra.keep ((Below.refl _ _).onAlloc (.cells #[.int .i64 10, .slice a' r' c'] 58)))
    clear hb ho hra
    go_wp2_with fail
    refine (atake_is M10 2 7 10 2 7 _ 3 am cm _ (by decide) free10 rfl rfl rfl (by decide) HSS.out.r (by decide) (by decide) (by decide)).mono ?_
    rintro e w' ⟨v1, a', r', c', rfl, ho, hb⟩
    rw [take10b] at ho
    have HSS := Lib.hid ((HSS.out.later hb).later ((Below.refl _ _).onAlloc (.cells #[.int .i64 10, .slice a' r' c'] 58)))
    clear t0 t1 g0 g1
    have t0 := HSS.out.t0
    have t1 := HSS.out.t1
    have g0 := HSS.out.g0
    have g1 := HSS.out.g1
    obtain ⟨ab, cb, rfl, hrb⟩ := ho.rd (by simp)
    have HRB := Lib.hid (hrb.keep ((Below.refl _ _).onAlloc (.cells #[.int .i64 10, .slice a' r' c'] 58)))
    have HRA := Lib.hid (HRA.out.keep (hb.onAlloc (.cells #[.int .i64 10, .slice a' r' c'] 58)))
    clear hb ho hrb
    go_wp2_with fail
    refine (atake_is M10 4 6 10 4 6 _ 3 am cm _ (by decide) free10 rfl rfl rfl (by decide) HSS.out.r (by decide) (by decide) (by decide)).mono ?_
    rintro e w' ⟨v1, a', r', c', rfl, ho, hb⟩
    rw [take10c] at ho
    have HSS := Lib.hid ((HSS.out.later hb).later ((Below.refl _ _).onAlloc (.cells #[.int .i64 10, .slice a' r' c'] 58)))
    clear t0 t1 g0 g1
    have t0 := HSS.out.t0
    have t1 := HSS.out.t1
    have g0 := HSS.out.g0
    have g1 := HSS.out.g1
    obtain ⟨ac, cc, rfl, hrc⟩ := ho.rd (by simp)
    have HRC := Lib.hid (hrc.keep ((Below.refl _ _).onAlloc (.cells #[.int .i64 10, .slice a' r' c'] 58)))
    have HRA := Lib.hid (HRA.out.keep (hb.onAlloc (.cells #[.int .i64 10, .slice a' r' c'] 58)))
    have HRB := Lib.hid (HRB.out.keep (hb.onAlloc (.cells #[.int .i64 10, .slice a' r' c'] 58)))
    clear hb ho hrc
    go_wp2_with fail
    refine (atake_no M10 7 0 10 _ 3 am cm _ (by decide) free10 rfl (by decide) HSS.out.r (by decide) (by decide)).mono ?_
    rintro e w' ⟨rfl, hb⟩
    have hk := hb.onAlloc (.cells #[.int .i64 0, .slice none 0 0] 58)
    have HSS := Lib.hid (HSS.out.later hk)
    have HRA := Lib.hid (HRA.out.keep hk)
    have HRB := Lib.hid (HRB.out.keep hk)
    have HRC := Lib.hid (HRC.out.keep hk)
    clear hb hk t0 t1 g0 g1
    have t0 := HSS.out.t0
    have t1 := HSS.out.t1
    have g0 := HSS.out.g0
    have g1 := HSS.out.g1
    go_wp2_with fail
    refine (run35_any 5 2 _).mono ?_
    rintro e w5 ⟨g, _, rfl, ho, hb⟩
    have HSS := Lib.hid (HSS.out.later hb)
    have HRA := Lib.hid (HRA.out.keep hb)
    have HRB := Lib.hid (HRB.out.keep hb)
    have HRC := Lib.hid (HRC.out.keep hb)
    clear t0 t1 g0 g1
    have t0 := HSS.out.t0
    have t1 := HSS.out.t1
    have g0 := HSS.out.g0
    have g1 := HSS.out.g1
    have HRX := Lib.hid (ho.rd' (by simp))
    clear hb ho
    go_wp2_with fail
    refine (same_is [⟨0, 2, 5⟩] [⟨0, 2, 5⟩] _ _ _ _ true _ (by decide) HRA.out HRX.out).mono ?_
    rintro e w5 ⟨rfl, hb⟩
    have HSS := Lib.hid (HSS.out.later hb)
    have HRA := Lib.hid (HRA.out.keep hb)
    have HRB := Lib.hid (HRB.out.keep hb)
    have HRC := Lib.hid (HRC.out.keep hb)
    clear t0 t1 g0 g1
    have t0 := HSS.out.t0
    have t1 := HSS.out.t1
    have g0 := HSS.out.g0
    have g1 := HSS.out.g1
    clear hb HRX
    go_wp2_with fail
    refine (run35_any 0 2 _).mono ?_
    rintro e w5 ⟨g, _, rfl, ho, hb⟩
    have HSS := Lib.hid (HSS.out.later hb)
    have HRA := Lib.hid (HRA.out.keep hb)
    have HRB := Lib.hid (HRB.out.keep hb)
    have HRC := Lib.hid (HRC.out.keep hb)
    clear t0 t1 g0 g1
    have t0 := HSS.out.t0
    have t1 := HSS.out.t1
    have g0 := HSS.out.g0
    have g1 := HSS.out.g1
    have HRX := Lib.hid (ho.rd' (by simp))
    clear hb ho
    go_wp2_with fail
    refine (same_is [⟨0, 2, 0⟩] [⟨0, 2, 0⟩] _ _ _ _ true _ (by decide) HRB.out HRX.out).mono ?_
    rintro e wq ⟨rfl, hb⟩
    have HSS := Lib.hid (HSS.out.later hb)
    have HRA := Lib.hid (HRA.out.keep hb)
    have HRB := Lib.hid (HRB.out.keep hb)
    have HRC := Lib.hid (HRC.out.keep hb)
    clear t0 t1 g0 g1
    have t0 := HSS.out.t0
    have t1 := HSS.out.t1
    have g0 := HSS.out.g0
    have g1 := HSS.out.g1
    clear hb HRX
    go_wp2_with fail
    refine (run35_any 6 2 _).mono ?_
    rintro e w5 ⟨g, hg, rfl, ho, hb⟩
    have HBB := Lib.hid hb
    have HOX := Lib.hid ho
    clear hb ho
    go_wp2_with fail
    refine (run35_any 9 1 _).mono ?_
    rintro e w6 ⟨g2, hg2, rfl, ho, hb⟩
    have HBB := Lib.hid (HBB.out.on hb)
    have HOX := Lib.hid (HOX.out.keep hb)
    have HS2 := Lib.hid (ho.rd' (by simp)).source
    have hsz := HBB.out.size
    clear hb ho
    go_wp2_with (at_builtin; refine wpList_ungd (by go_simp) ?_; refine wpList_append_xs _ rfl _ _ 32 rfl wq.heap.size 41 i0 (.agg #[.int .i64 0, .int .i64 0, .int .i64 0]) 3 24 Try.underlying32 hi hz0 hz1 hz2 rfl (by decide) _ _ _ rfl HOX.out _ _ _ _ rfl HS2.out (by first | omega | (simp only [List.length_nil, List.length_append, List.length_cons]; omega)) (by first | (simp only [maxLen]; omega) | (simp only [maxLen, List.length_nil, List.length_append, List.length_cons]; omega)) (by first | omega | (simp only [World.size_alloc]; omega)) ?_; intro v1 w1 hown1 hgrow1 hwhere1)
    have HBB := Lib.hid (HBB.out.onGrow hgrow1 (fun j hj => (HOX.out.lt j hj).1))
    have HOY := Lib.hid (OwnE.append (l := [⟨0, 2, 6⟩]) (r := [⟨0, 1, 9⟩]) hown1 rfl)
    clear hown1 hgrow1 hwhere1 hsz
    refine (run35_any 0 1 _).mono ?_
    rintro e w7 ⟨g3, hg3, rfl, ho, hb⟩
    have HBB := Lib.hid (HBB.out.on hb)
    have HOY := Lib.hid (HOY.out.keep hb)
    have HS2 := Lib.hid (ho.rd' (by simp)).source
    have hsz := HBB.out.size
    clear hb ho
    go_wp2_with (at_builtin; refine wpList_ungd (by go_simp) ?_; refine wpList_append_xs _ rfl _ _ 32 rfl wq.heap.size 41 i0 (.agg #[.int .i64 0, .int .i64 0, .int .i64 0]) 3 24 Try.underlying32 hi hz0 hz1 hz2 rfl (by decide) _ _ _ rfl HOY.out _ _ _ _ rfl HS2.out (by first | omega | (simp only [List.length_nil, List.length_append, List.length_cons]; omega)) (by first | (simp only [maxLen]; omega) | (simp only [maxLen, List.length_nil, List.length_append, List.length_cons]; omega)) (by first | omega | (simp only [World.size_alloc]; omega)) ?_; intro v1 w1 hown1 hgrow1 hwhere1)
    have HBB := Lib.hid (HBB.out.onGrow hgrow1 (fun j hj => (HOY.out.lt j hj).1))
    have HOZ := Lib.hid (OwnE.append (l := [⟨0, 2, 6⟩, ⟨0, 1, 9⟩]) (r := [⟨0, 1, 0⟩]) hown1 rfl)
    obtain ⟨az, cz, rfl, hrz⟩ := HOZ.out.rd (by simp)
    clear hown1 hgrow1 hwhere1 hsz t0 t1 g0 g1
    refine (same_is [⟨0, 2, 6⟩, ⟨0, 1, 9⟩, ⟨0, 1, 0⟩] [⟨0, 2, 6⟩, ⟨0, 1, 9⟩, ⟨0, 1, 0⟩] _ _ _ _ true _ (by decide) (HRC.out.keep HBB.out) hrz).mono ?_
    rintro e w9 ⟨rfl, hb⟩
    have HSS := Lib.hid (HSS.out.later (HBB.out.on hb))
    clear hb hrz HBB
    have t0 := HSS.out.t0
    have t1 := HSS.out.t1
    have g0 := HSS.out.g0
    have g1 := HSS.out.g1
    go_wp2_with fail
    refine (afree_lit 10 _ 6 3 am cm _ rfl (by decide) HSS.out.r ⟨by decide, by decide⟩).mono ?_
    rintro e w10 ⟨rfl, hb⟩
    have hB := HSS.out.B.on hb
    go_wp2_with fail
    go_ret
    exact ⟨rfl, hB⟩
end Go.Proofs.Ytolhajkbamhdgaa
