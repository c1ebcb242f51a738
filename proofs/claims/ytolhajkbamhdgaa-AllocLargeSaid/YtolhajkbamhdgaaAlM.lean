/-
  Chapter 35: the statements' helper step.
  Conditions: as the theorem says.
-/
import Derived.Test.YtolhajkbamhdgaaAlL
import Derived.Deep.CutRange
namespace Go.Proofs.Ytolhajkbamhdgaa
set_option linter.unusedSimpArgs false
set_option linter.unusedVariables false
open Go.RowKit

/-- The variables of step. -/
structure StepS (w0 w : World) (T : Nat) (m0 m1 s0 s1 s2 t0 t1 : Value) : Prop where
  m0 : w.cell? ⟨w0.heap.size, 0, none⟩ = some m0
  m1 : w.cell? ⟨w0.heap.size, 1, none⟩ = some m1
  s0 : w.cell? ⟨w0.heap.size + 1, 0, none⟩ = some s0
  s1 : w.cell? ⟨w0.heap.size + 1, 1, none⟩ = some s1
  s2 : w.cell? ⟨w0.heap.size + 1, 2, none⟩ = some s2
  r0 : w.cell? ⟨w0.heap.size + 1 + 1, 0, none⟩ = some (.int .i64 0)
  r1 : w.cell? ⟨w0.heap.size + 1 + 1, 1, none⟩ = some (.slice none 0 0)
  f0 : w.frozen? ⟨w0.heap.size + 1 + 1, 0, none⟩ = false
  f1 : w.frozen? ⟨w0.heap.size + 1 + 1, 1, none⟩ = false
  t0 : w.cell? ⟨T, 0, none⟩ = some t0
  t1 : w.cell? ⟨T, 1, none⟩ = some t1
  g0 : w.frozen? ⟨T, 0, none⟩ = false
  g1 : w.frozen? ⟨T, 1, none⟩ = false
  T3 : w0.heap.size + 3 < T
  B : Below w0.heap.size w0 w
section
variable {w0 w w' : World} {T : Nat} {m0 m1 s0 s1 s2 t0 t1 : Value}
theorem StepS.later (h : StepS w0 w T m0 m1 s0 s1 s2 t0 t1) (hb : Below w.heap.size w w') : StepS w0 w' T m0 m1 s0 s1 s2 t0 t1 :=
  ⟨hb.keep h.m0, hb.keep h.m1, hb.keep h.s0, hb.keep h.s1, hb.keep h.s2, hb.keep h.r0, hb.keep h.r1, hb.keepF h.r0 h.f0, hb.keepF h.r1 h.f1, hb.keep h.t0, hb.keep h.t1, hb.keepF h.t0 h.g0, hb.keepF h.t1 h.g1, h.T3, h.B.on hb⟩
theorem StepS.lt (h : StepS w0 w T m0 m1 s0 s1 s2 t0 t1) : T < w.heap.size := World.block_lt_of_cell? w _ h.t0
theorem StepS.put (h : StepS w0 w T m0 m1 s0 s1 s2 t0 t1) (x0 x1 : Value) : StepS w0 ((w.setCell ⟨T, 0, none⟩ x0).setCell ⟨T, 1, none⟩ x1) T m0 m1 s0 s1 s2 x0 x1 := by
  have h3 := h.T3
  have far : ∀ b i, b ≠ T → ((w.setCell ⟨T, 0, none⟩ x0).setCell ⟨T, 1, none⟩ x1).cell? ⟨b, i, none⟩ = w.cell? ⟨b, i, none⟩ := fun b i hb => by
    rw [World.cell?_setCell_far _ _ _ _ (Ne.symm hb), World.cell?_setCell_far _ _ _ _ (Ne.symm hb)]
  have e0 : (w.setCell ⟨T, 0, none⟩ x0).cell? ⟨T, 0, none⟩ = some x0 := World.cell?_setCell_same _ _ _ h.t0
  have e1 : (w.setCell ⟨T, 0, none⟩ x0).cell? ⟨T, 1, none⟩ = some t1 := by
    rw [World.cell?_setCell_other _ _ _ _ (by simp)]; exact h.t1
  refine ⟨by rw [far _ _ (by omega)]; exact h.m0, by rw [far _ _ (by omega)]; exact h.m1, by rw [far _ _ (by omega)]; exact h.s0, by rw [far _ _ (by omega)]; exact h.s1, by rw [far _ _ (by omega)]; exact h.s2, by rw [far _ _ (by omega)]; exact h.r0, by rw [far _ _ (by omega)]; exact h.r1,
    by rw [World.frozen?_setCell, World.frozen?_setCell]; exact h.f0, by rw [World.frozen?_setCell, World.frozen?_setCell]; exact h.f1, ?_, ?_, by rw [World.frozen?_setCell, World.frozen?_setCell]; exact h.g0, by rw [World.frozen?_setCell, World.frozen?_setCell]; exact h.g1, h3, (h.B.setCell (by simp; omega) _).setCell (by simp; omega) _⟩
  · rw [World.cell?_setCell_other _ _ _ _ (by simp)]; exact e0
  · exact World.cell?_setCell_same _ _ _ e1
end
theorem r_new (W2 : World) (b : Nat) (hb : b = W2.heap.size) (u v : Value) (t : TypeId) : (W2.alloc (.cells #[u, v] t)).cell? ⟨b, 0, none⟩ = some u ∧ (W2.alloc (.cells #[u, v] t)).cell? ⟨b, 1, none⟩ = some v ∧
    (W2.alloc (.cells #[u, v] t)).frozen? ⟨b, 0, none⟩ = false ∧ (W2.alloc (.cells #[u, v] t)).frozen? ⟨b, 1, none⟩ = false := by
  subst hb
  simp
theorem RdM.cell_ne {w : World} {a : Option Addr} {M : List Bool} (h : RdM w a M) (g o : Nat) (v : Value) (hb : Away (M = []) a g) : RdM (w.setCell ⟨g, o, none⟩ v) a M := by
  rcases hb with hb | hb
  · exact ⟨h.1, .inl hb⟩
  refine ⟨h.1, h.2.imp id fun ⟨b, o', ha, hat⟩ => ⟨b, o', ha, fun k x hk => ?_⟩⟩
  have hne := hb b o' ha
  rw [World.cell?_setCell_far _ _ _ _ (Ne.symm hne)]
  exact hat k x hk
theorem RdM.lt {w : World} {a : Option Addr} {M : List Bool} (h : RdM w a M) : M = [] ∨ ∀ b o, a = some ⟨b, o, none⟩ → b < w.heap.size := by
  cases M with
  | nil => exact .inl rfl
  | cons x r =>
    obtain ⟨b, o, e, hat⟩ := h.at (by simp)
    refine .inr fun b' o' e' => ?_
    have hc := World.block_lt_of_cell? w _ (hat 0 x rfl)
    rw [e] at e'
    injection e' with e'
    injection e' with e1
    rw [← e1]
    exact hc
theorem away_lt {p : Prop} {a : Option Addr} {n g : Nat} (h : p ∨ ∀ b o, a = some ⟨b, o, none⟩ → b < n) (hg : n ≤ g) : Away p a g := h.imp id fun h b o e => by have := h b o e; omega
/-- What step leaves: both maps read as one list of marks. -/
def StepPost (M : List Bool) (a a2 : Option Addr) (w : World) (e : Ending) (w' : World) : Prop :=
  ∃ (M' : List Bool) (a' : Option Addr) (c' : Nat) (b' : Option Addr) (d' : Nat), M'.length = M.length ∧ e = .returned (.tuple #[.agg #[.int .i64 M.length, .slice a' (freeR M').length c'], .slice b' M.length d', .bool true]) ∧ Rd w' a' (freeR M') ∧ RdM w' b' M' ∧
    Fresh (freeR M = []) (freeR M' = []) w.heap.size a a' ∧ Fresh (M = []) (M' = []) w.heap.size a2 b' ∧ Below w.heap.size w w'
theorem step_same {M : List Bool} {a a2 : Option Addr} {c c2 : Nat} {w w5 : World} {x0 x1 : Value} (hB : Below w.heap.size w w5) (hr : Rd w5 a (freeR M)) (hd : RdM w5 a2 M)
    (h1 : freeR M = [] ∨ ∀ b o, a = some ⟨b, o, none⟩ → b < w.heap.size) (h2 : M = [] ∨ ∀ b o, a2 = some ⟨b, o, none⟩ → b < w.heap.size) :
    StepPost M a a2 w (.returned (.tuple #[.agg #[.int .i64 M.length, .slice a (freeR M).length c], .slice a2 M.length c2, .bool true])) ((w5.setCell ⟨w.heap.size + 1 + 1, 0, none⟩ x0).setCell ⟨w.heap.size + 1 + 1, 1, none⟩ x1) := by
  have w1 := away_lt (g := w.heap.size + 1 + 1) h1 (by omega)
  have w2 := away_lt (g := w.heap.size + 1 + 1) h2 (by omega)
  exact ⟨M, a, c, a2, c2, rfl, rfl, (hr.cell_ne _ _ _ w1).cell_ne _ _ _ w1, (hd.cell_ne _ _ _ w2).cell_ne _ _ _ w2, Fresh.self _ _ _, Fresh.self _ _ _, (hB.setCell (by simp; omega) _).setCell (by simp; omega) _⟩
/-- The maps after a change. -/
theorem step_new {M M' : List Bool} {a a2 a' b' : Option Addr} {c' d' : Nat} {w w5 : World} {x0 x1 : Value} (hl : M'.length = M.length) (hB : Below w.heap.size w w5) (hr : Rd w5 a' (freeR M')) (hd : RdM w5 b' M')
    (h1 : freeR M = [] ∨ ∀ b o, a = some ⟨b, o, none⟩ → b < w.heap.size) (h2 : M = [] ∨ ∀ b o, a2 = some ⟨b, o, none⟩ → b < w.heap.size)
    (f1 : Fresh (freeR M = []) (freeR M' = []) (w.heap.size + 3) a a') (f2 : Fresh (M = []) (M' = []) (w.heap.size + 3) a2 b') :
    StepPost M a a2 w (.returned (.tuple #[.agg #[.int .i64 M.length, .slice a' (freeR M').length c'], .slice b' M.length d', .bool true])) ((w5.setCell ⟨w.heap.size + 1 + 1, 0, none⟩ x0).setCell ⟨w.heap.size + 1 + 1, 1, none⟩ x1) := by
  have w1 := f1.away (away_lt (g := w.heap.size + 1 + 1) h1 (by omega)) (by omega)
  have w2 := f2.away (away_lt (g := w.heap.size + 1 + 1) h2 (by omega)) (by omega)
  exact ⟨M', a', c', b', d', hl, rfl, (hr.cell_ne _ _ _ w1).cell_ne _ _ _ w1, (hd.cell_ne _ _ _ w2).cell_ne _ _ _ w2, f1.mono (by omega), f2.mono (by omega), (hB.setCell (by simp; omega) _).setCell (by simp; omega) _⟩
set_option maxRecDepth 100000 in
set_option maxHeartbeats 16000000 in
theorem step35_any (M : List Bool) (x : Step35) (a a2 al : Option Addr) (c c2 cl : Nat) (w : World) (hN : M.length ≤ 65536) (hrC : Rd w a (freeR M)) (hrD : RdM w a2 M) (hrl : Rd w al x.l) (hw : wfL x.l) (hl : x.l.length ≤ 8) (bk : 0 ≤ x.k ∧ x.k ≤ 255) (bn : 0 ≤ x.n ∧ x.n ≤ 255) (bh : 0 ≤ x.h ∧ x.h ≤ 255) :
    Calls Try.prog 48 #[.agg #[.int .i64 M.length, .slice a (freeR M).length c], .slice a2 M.length c2, .agg #[.int .u8 x.k, .int .u8 x.n, .int .u8 x.h, .slice al x.l.length cl]] w (StepPost M a a2 w) := by
  obtain ⟨k, n, h, l⟩ := x
  simp only at hrl hw hl bk bn bh ⊢
  obtain ⟨i0, hi, hz0, hz1, hz2⟩ := info_parts infoE
  obtain ⟨W3, hW3⟩ : ∃ W3, W3 = ((w.alloc (.cells #[.int .i64 M.length, .slice a (freeR M).length c] 58)).alloc (.cells #[.int .u8 k, .int .u8 n, .int .u8 h, .slice al l.length cl] 80)).alloc (.cells #[.int .i64 0, .slice none 0 0] 58) := ⟨_, rfl⟩
  have hk3 : Below w.heap.size w W3 := by rw [hW3]; exact (((Below.refl w.heap.size w).onAlloc _).onAlloc _).onAlloc _
  have hs3 : W3.heap.size = w.heap.size + 3 := by rw [hW3]; simp
  have h0 : OwnE (W3.alloc (.cells #[] 41)) (w.heap.size + 3) (.slice (some ⟨w.heap.size + 3, 0, none⟩) 0 0) [] := by
    have := OwnE.lit W3 #[] [] rfl (by decide) W3.heap.size (Nat.le_refl _)
    rw [hs3] at this
    exact this
  have hsrc := (hrl.keep (hk3.onAlloc (.cells #[] 41))).source
  rw [hW3] at h0 hsrc
  have H0 := Lib.hid h0
  have HSR := Lib.hid hsrc
  have hk4 := hk3.onAlloc (.cells #[] 41)
  have HK4 := Lib.hid hk4
  have HW3 := Lib.hid hW3
  have HRC := Lib.hid hrC
  have HRD := Lib.hid hrD
  have HW := Lib.hid hw
  have hltC := hrC.lt
  have hltD := hrD.lt
  clear h0 hsrc hk3 hs3 hrl hrC hrD hw hk4 hW3
  go_enter Try.func48, Try.ntmps48
  go_upto_region 2 with (at_builtin; refine wpList_append_xs _ rfl _ _ 32 rfl (w.heap.size + 3) 41 i0 (.agg #[.int .i64 0, .int .i64 0, .int .i64 0]) 3 24 Try.underlying32 hi hz0 hz1 hz2 rfl (by decide) _ _ _ rfl H0.out _ _ _ _ rfl HSR.out (by first | omega | (simp only [List.length_nil, List.length_append, List.length_cons]; omega)) (by first | (simp only [maxLen]; omega) | (simp only [maxLen, List.length_nil, List.length_append, List.length_cons]; omega)) (by first | omega | (simp only [World.size_alloc]; omega)) ?_; intro v1 w1 hown1 hgrow1 hwhere1)
  have ho := OwnE.append (l := []) hown1 (by simp)
  rw [List.nil_append] at ho
  rw [← HW3.out] at hgrow1
  have hbl := ((Below.refl W3.heap.size W3).onAlloc (.cells #[] 41)).onGrow hgrow1 fun j hj => (H0.out.lt j hj).1 |> fun h => (by rw [HW3.out]; simpa using h)
  obtain ⟨la, lc, rfl, hrl1⟩ := ho.rd (by omega)
  have hlt1 := hrl1.lt
  rw [show ([] : List E).length + l.length = l.length by simp] at *
  have hbT := hbl.onAlloc (.cells #[.int .i64 0, .slice none 0 0] 58)
  have hsz : W3.heap.size < w1.heap.size := by
    have := hgrow1.size
    simp only [World.size_alloc] at this
    omega
  have hs3 : W3.heap.size = w.heap.size + 3 := by rw [HW3.out]; simp
  have hS : StepS w (w1.alloc (.cells #[.int .i64 0, .slice none 0 0] 58)) w1.heap.size (.int .i64 M.length) (.slice a (freeR M).length c) (.int .u8 k) (.int .u8 n) (.int .u8 h) (.int .i64 0) (.slice none 0 0) := by
    obtain ⟨q0, q1, q2, q3⟩ := r_new ((w.alloc (.cells #[.int .i64 M.length, .slice a (freeR M).length c] 58)).alloc (.cells #[.int .u8 k, .int .u8 n, .int .u8 h, .slice al l.length cl] 80)) (w.heap.size + 1 + 1) (by simp) (.int .i64 0) (.slice none 0 0) 58
    rw [← HW3.out] at q0 q1 q2 q3
    refine ⟨hbT.keep ?_, hbT.keep ?_, hbT.keep ?_, hbT.keep ?_, hbT.keep ?_, hbT.keep q0, hbT.keep q1, hbT.keepF q0 q2, hbT.keepF q1 q3, by simp, by simp, by simp, by simp, by omega, Below.on (by rw [HW3.out]; exact (((Below.refl w.heap.size w).onAlloc _).onAlloc _).onAlloc _) hbT⟩
    all_goals (rw [HW3.out]; simp)
  have hkk : Below w.heap.size w (w1.alloc (.cells #[.int .i64 0, .slice none 0 0] 58)) := hS.B
  have HRL := Lib.hid (hrl1.keep ((Below.refl w1.heap.size w1).onAlloc (.cells #[.int .i64 0, .slice none 0 0] 58)))
  have HRC := Lib.hid (HRC.out.keep hkk)
  have HRD := Lib.hid (HRD.out.keep hkk)
  have HS := Lib.hid hS
  clear hown1 hgrow1 hwhere1 ho hbl hrl1 hbT hsz hs3 hS hkk H0 HSR HK4 HW3
  go_upto_region 6 with fail
  generalize w1.alloc (.cells #[.int .i64 0, .slice none 0 0] 58) = W at *
  generalize w1.heap.size = T at *
  have HAC := Lib.hid (away_lt (g := T) hltC (by have := HS.out.T3; omega))
  have HAD := Lib.hid (away_lt (g := T) hltD (by have := HS.out.T3; omega))
  have HAL := Lib.hid (away_lt (g := T) hlt1 (Nat.le_refl _))
  have HLC := Lib.hid hltC
  have HLD := Lib.hid hltD
  clear hltC hltD hlt1
  have hk04 : (k % 4 = 0 ∨ k % 4 = 1) ∨ k % 4 = 2 ∨ k % 4 = 3 := by omega
  have HC := Lib.hid (freeR_canon M)
  rcases hk04 with hk | hk | hk
  · rcases hk with hk | hk
    · have e0 : (k % 4 == 0) = true := by rw [hk]; rfl
      clear hk
      have hn2 : n ≤ 255 := bn.2
      have hh2 : h ≤ 255 := bh.2
      obtain ⟨n, rfl⟩ := Int.eq_ofNat_of_zero_le bn.1
      obtain ⟨h, rfl⟩ := Int.eq_ofNat_of_zero_le bh.1
      have m0 := HS.out.m0
      have m1 := HS.out.m1
      have s0 := HS.out.s0
      have s1 := HS.out.s1
      have s2 := HS.out.s2
      have r0 := HS.out.r0
      have r1 := HS.out.r1
      have f0 := HS.out.f0
      have f1 := HS.out.f1
      have t0 := HS.out.t0
      have t1 := HS.out.t1
      have g0 := HS.out.g0
      have g1 := HS.out.g1
      cases hq : askB M.length n h
      · have HQ := Lib.hid hq
        clear hq
        go_wp2_with fail
        refine (atake_arg M.length (freeR M) n h a c _ hN HQ.out).mono ?_
        rintro e w2 ⟨rfl, hb2⟩
        have HS := Lib.hid (HS.out.later hb2)
        have HRC := Lib.hid (HRC.out.keep hb2)
        have HRD := Lib.hid (HRD.out.keep hb2)
        have HRL := Lib.hid (HRL.out.keep hb2)
        clear hb2 m0 m1 s0 s1 s2 r0 r1 f0 f1 t0 t1 g0 g1
        have m0 := HS.out.m0
        have m1 := HS.out.m1
        have s0 := HS.out.s0
        have s1 := HS.out.s1
        have s2 := HS.out.s2
        have r0 := HS.out.r0
        have r1 := HS.out.r1
        have f0 := HS.out.f0
        have f1 := HS.out.f1
        have t0 := HS.out.t0
        have t1 := HS.out.t1
        have g0 := HS.out.g0
        have g1 := HS.out.g1
        have p1 := (HS.out.put (.int .i64 0) (.slice none 0 0)).s1
        have p2 := (HS.out.put (.int .i64 0) (.slice none 0 0)).s2
        go_wp2_with fail
        clear p1 p2
        have HS := Lib.hid (HS.out.put (.int .i64 0) (.slice none 0 0))
        have HRC := Lib.hid ((HRC.out.cell_ne T 0 (.int .i64 0) HAC.out).cell_ne T 1 (.slice none 0 0) HAC.out)
        have HRD := Lib.hid ((HRD.out.cell_ne T 0 (.int .i64 0) HAD.out).cell_ne T 1 (.slice none 0 0) HAD.out)
        have HRL := Lib.hid ((HRL.out.cell_ne T 0 (.int .i64 0) HAL.out).cell_ne T 1 (.slice none 0 0) HAL.out)
        generalize World.setCell (World.setCell _ ⟨T, 0, none⟩ (.int .i64 0)) ⟨T, 1, none⟩ (.slice none 0 0) = W5 at *
        clear m0 m1 s0 s1 s2 r0 r1 f0 f1 t0 t1 g0 g1
        have m0 := HS.out.m0
        have m1 := HS.out.m1
        have s0 := HS.out.s0
        have s1 := HS.out.s1
        have s2 := HS.out.s2
        have r0 := HS.out.r0
        have r1 := HS.out.r1
        have f0 := HS.out.f0
        have f1 := HS.out.f1
        have t0 := HS.out.t0
        have t1 := HS.out.t1
        have g0 := HS.out.g0
        have g1 := HS.out.g1
        refine (qtake_arg M n h a2 c2 _ HRD.out hN HQ.out).mono ?_
        rintro e w3 ⟨rfl, hb3⟩
        have HS := Lib.hid (HS.out.later hb3)
        have HRC := Lib.hid (HRC.out.keep hb3)
        have HRD := Lib.hid (HRD.out.keep hb3)
        have HRL := Lib.hid (HRL.out.keep hb3)
        clear hb3 m0 m1 s0 s1 s2 r0 r1 f0 f1 t0 t1 g0 g1
        have m0 := HS.out.m0
        have m1 := HS.out.m1
        have s0 := HS.out.s0
        have s1 := HS.out.s1
        have s2 := HS.out.s2
        have r0 := HS.out.r0
        have r1 := HS.out.r1
        have f0 := HS.out.f0
        have f1 := HS.out.f1
        have t0 := HS.out.t0
        have t1 := HS.out.t1
        have g0 := HS.out.g0
        have g1 := HS.out.g1
        go_wp2_with fail
        refine (same_is [] [] none none 0 0 true _ rfl ⟨by simp, .inl rfl⟩ ⟨by simp, .inl rfl⟩).mono ?_
        rintro e w5 ⟨rfl, hb5⟩
        have HS := Lib.hid (HS.out.later hb5)
        have HRC := Lib.hid (HRC.out.keep hb5)
        have HRD := Lib.hid (HRD.out.keep hb5)
        have HRL := Lib.hid (HRL.out.keep hb5)
        clear hb5 m0 m1 s0 s1 s2 r0 r1 f0 f1 t0 t1 g0 g1
        have m0 := HS.out.m0
        have m1 := HS.out.m1
        have s0 := HS.out.s0
        have s1 := HS.out.s1
        have s2 := HS.out.s2
        have r0 := HS.out.r0
        have r1 := HS.out.r1
        have f0 := HS.out.f0
        have f1 := HS.out.f1
        have t0 := HS.out.t0
        have t1 := HS.out.t1
        have g0 := HS.out.g0
        have g1 := HS.out.g1
        go_wp2_with fail
        refine bodyPost_ret (v := .tuple #[.agg #[.int .i64 M.length, .slice a (freeR M).length c], .slice a2 M.length c2, .bool true]) ?_ rfl (step_same HS.out.B HRC.out HRD.out HLC.out HLD.out)
        simp [results, Try.results48, go_sem, r0, r1, f0, f1]
      · have HQ := Lib.hid hq
        have hhM : h ≤ M.length := by have := (askB_iff _ _ _).1 hq; omega
        clear hq
        by_cases hf : n ≤ area (freeF M) M.length
        · by_cases h0 : n = 0
          · subst h0
            have HCH := Lib.hid (chgM_nil M true)
            go_wp2_with fail
            refine (atake_zero M.length (freeR M) h a c _ hN HRC.out HC.out HQ.out).mono ?_
            rintro e w2 ⟨rfl, hb2⟩
            have HS := Lib.hid (HS.out.later hb2)
            have HRC := Lib.hid (HRC.out.keep hb2)
            have HRD := Lib.hid (HRD.out.keep hb2)
            have HRL := Lib.hid (HRL.out.keep hb2)
            clear hb2 m0 m1 s0 s1 s2 r0 r1 f0 f1 t0 t1 g0 g1
            have m0 := HS.out.m0
            have m1 := HS.out.m1
            have s0 := HS.out.s0
            have s1 := HS.out.s1
            have s2 := HS.out.s2
            have r0 := HS.out.r0
            have r1 := HS.out.r1
            have f0 := HS.out.f0
            have f1 := HS.out.f1
            have t0 := HS.out.t0
            have t1 := HS.out.t1
            have g0 := HS.out.g0
            have g1 := HS.out.g1
            have p1 := (HS.out.put (.int .i64 M.length) (.slice a (freeR M).length c)).s1
            have p2 := (HS.out.put (.int .i64 M.length) (.slice a (freeR M).length c)).s2
            go_wp2_with fail
            clear p1 p2
            have HRC' := Lib.hid ((HRC.out.cell_ne T 0 (.int .i64 M.length) HAC.out).cell_ne T 1 (.slice a (freeR M).length c) HAC.out)
            have HS := Lib.hid (HS.out.put (.int .i64 M.length) (.slice a (freeR M).length c))
            have HRC := Lib.hid ((HRC.out.cell_ne T 0 (.int .i64 M.length) HAC.out).cell_ne T 1 (.slice a (freeR M).length c) HAC.out)
            have HRD := Lib.hid ((HRD.out.cell_ne T 0 (.int .i64 M.length) HAD.out).cell_ne T 1 (.slice a (freeR M).length c) HAD.out)
            have HRL := Lib.hid ((HRL.out.cell_ne T 0 (.int .i64 M.length) HAL.out).cell_ne T 1 (.slice a (freeR M).length c) HAL.out)
            generalize World.setCell (World.setCell _ ⟨T, 0, none⟩ (.int .i64 M.length)) ⟨T, 1, none⟩ (.slice a (freeR M).length c) = W5 at *
            clear m0 m1 s0 s1 s2 r0 r1 f0 f1 t0 t1 g0 g1
            have m0 := HS.out.m0
            have m1 := HS.out.m1
            have s0 := HS.out.s0
            have s1 := HS.out.s1
            have s2 := HS.out.s2
            have r0 := HS.out.r0
            have r1 := HS.out.r1
            have f0 := HS.out.f0
            have f1 := HS.out.f1
            have t0 := HS.out.t0
            have t1 := HS.out.t1
            have g0 := HS.out.g0
            have g1 := HS.out.g1
            refine (qtake_yes M 0 h a2 c2 _ HRD.out hN hhM (by omega)).mono ?_
            rintro e w3 ⟨v1, v2, rfl, ho1, ho2, hb3⟩
            rw [takeL_zero, HCH.out] at ho2
            rw [takeL_zero] at ho1
            obtain ⟨b1, d1, rfl, hr1⟩ := ho1.rd (by simp)
            obtain ⟨b', d', rfl, hrd'⟩ := ho2.rd hN
            have HF1 : Hid (Fresh (freeR M = []) (freeR M = []) (w.heap.size + 3) a a) := Lib.hid (Fresh.self _ _ _)
            have HF2 : Hid (Fresh (M = []) (M = []) (w.heap.size + 3) a2 b') := Lib.hid (.inr (.inr fun b o e => by have := (ho2.lt b (by rw [e]; rfl)).1; have := HS.out.T3; have := HS.out.lt; omega))
            have HRC' := Lib.hid (HRC'.out.keep hb3)
            have HRD' := Lib.hid hrd'
            have HR1 := Lib.hid hr1
            clear ho1 ho2 hrd' hr1
            have HS := Lib.hid (HS.out.later hb3)
            have HRC := Lib.hid (HRC.out.keep hb3)
            have HRD := Lib.hid (HRD.out.keep hb3)
            have HRL := Lib.hid (HRL.out.keep hb3)
            clear hb3 m0 m1 s0 s1 s2 r0 r1 f0 f1 t0 t1 g0 g1
            have m0 := HS.out.m0
            have m1 := HS.out.m1
            have s0 := HS.out.s0
            have s1 := HS.out.s1
            have s2 := HS.out.s2
            have r0 := HS.out.r0
            have r1 := HS.out.r1
            have f0 := HS.out.f0
            have f1 := HS.out.f1
            have t0 := HS.out.t0
            have t1 := HS.out.t1
            have g0 := HS.out.g0
            have g1 := HS.out.g1
            go_wp2_with fail
            refine (same_is [] [] none b1 0 d1 true _ rfl ⟨by simp, .inl rfl⟩ HR1.out).mono ?_
            rintro e w5 ⟨rfl, hb5⟩
            have HRC' := Lib.hid (HRC'.out.keep hb5)
            have HRD' := Lib.hid (HRD'.out.keep hb5)
            have HS := Lib.hid (HS.out.later hb5)
            have HRC := Lib.hid (HRC.out.keep hb5)
            have HRD := Lib.hid (HRD.out.keep hb5)
            have HRL := Lib.hid (HRL.out.keep hb5)
            clear hb5 m0 m1 s0 s1 s2 r0 r1 f0 f1 t0 t1 g0 g1
            have m0 := HS.out.m0
            have m1 := HS.out.m1
            have s0 := HS.out.s0
            have s1 := HS.out.s1
            have s2 := HS.out.s2
            have r0 := HS.out.r0
            have r1 := HS.out.r1
            have f0 := HS.out.f0
            have f1 := HS.out.f1
            have t0 := HS.out.t0
            have t1 := HS.out.t1
            have g0 := HS.out.g0
            have g1 := HS.out.g1
            go_wp2_with fail
            refine bodyPost_ret (v := .tuple #[.agg #[.int .i64 M.length, .slice a (freeR M).length c], .slice b' M.length d', .bool true]) ?_ rfl (step_new rfl HS.out.B HRC'.out HRD'.out HLC.out HLD.out HF1.out HF2.out)
            simp [results, Try.results48, go_sem, r0, r1, f0, f1]
          · have HTL := Lib.hid (takeL_wf hN (n := n) (h := h) hf).2
            have HL := Lib.hid (chgM_length M (takeL M n h) true)
            go_wp2_with fail
            refine (atake_yes M n h a c _ HRC.out hN hhM (by omega) hf).mono ?_
            rintro e w2 ⟨v1, v2, rfl, ho1, ⟨a', c', rfl, hr', hfr'⟩, hb2⟩
            have hTl := HS.out.lt
            have hT3 := HS.out.T3
            have HF1 := Lib.hid (hfr'.mono (B' := w.heap.size + 3) (by omega))
            have HAC' := Lib.hid (hfr'.away HAC.out HS.out.lt)
            have HRC' := Lib.hid hr'
            obtain ⟨b1, d1, rfl, _⟩ := ho1.rd (by have := HTL.out; omega)
            have hne : (Value.slice b1 (takeL M n h).length d1).ownBlock ≠ some T := fun e => by have := (ho1.lt _ e).1; omega
            generalize hM : chgM M (takeL M n h) true = M' at *
            have HM := Lib.hid hM
            have HO1 := Lib.hid ((ho1.away ⟨T, 0, none⟩ (.int .i64 M.length) hne).away ⟨T, 1, none⟩ (.slice a' (freeR M').length c') hne)
            clear hr' hfr' hM hTl hT3 ho1 hne
            have HS := Lib.hid (HS.out.later hb2)
            have HRC := Lib.hid (HRC.out.keep hb2)
            have HRD := Lib.hid (HRD.out.keep hb2)
            have HRL := Lib.hid (HRL.out.keep hb2)
            clear hb2 m0 m1 s0 s1 s2 r0 r1 f0 f1 t0 t1 g0 g1
            have m0 := HS.out.m0
            have m1 := HS.out.m1
            have s0 := HS.out.s0
            have s1 := HS.out.s1
            have s2 := HS.out.s2
            have r0 := HS.out.r0
            have r1 := HS.out.r1
            have f0 := HS.out.f0
            have f1 := HS.out.f1
            have t0 := HS.out.t0
            have t1 := HS.out.t1
            have g0 := HS.out.g0
            have g1 := HS.out.g1
            have p1 := (HS.out.put (.int .i64 M.length) (.slice a' (freeR M').length c')).s1
            have p2 := (HS.out.put (.int .i64 M.length) (.slice a' (freeR M').length c')).s2
            go_wp2_with fail
            clear p1 p2
            have HRC' := Lib.hid ((HRC'.out.cell_ne T 0 (.int .i64 M.length) HAC'.out).cell_ne T 1 (.slice a' (freeR M').length c') HAC'.out)
            have HS := Lib.hid (HS.out.put (.int .i64 M.length) (.slice a' (freeR M').length c'))
            have HRC := Lib.hid ((HRC.out.cell_ne T 0 (.int .i64 M.length) HAC.out).cell_ne T 1 (.slice a' (freeR M').length c') HAC.out)
            have HRD := Lib.hid ((HRD.out.cell_ne T 0 (.int .i64 M.length) HAD.out).cell_ne T 1 (.slice a' (freeR M').length c') HAD.out)
            have HRL := Lib.hid ((HRL.out.cell_ne T 0 (.int .i64 M.length) HAL.out).cell_ne T 1 (.slice a' (freeR M').length c') HAL.out)
            generalize World.setCell (World.setCell _ ⟨T, 0, none⟩ (.int .i64 M.length)) ⟨T, 1, none⟩ (.slice a' (freeR M').length c') = W5 at *
            clear m0 m1 s0 s1 s2 r0 r1 f0 f1 t0 t1 g0 g1
            have m0 := HS.out.m0
            have m1 := HS.out.m1
            have s0 := HS.out.s0
            have s1 := HS.out.s1
            have s2 := HS.out.s2
            have r0 := HS.out.r0
            have r1 := HS.out.r1
            have f0 := HS.out.f0
            have f1 := HS.out.f1
            have t0 := HS.out.t0
            have t1 := HS.out.t1
            have g0 := HS.out.g0
            have g1 := HS.out.g1
            refine (qtake_yes M n h a2 c2 _ HRD.out hN hhM hf).mono ?_
            rintro e w3 ⟨v3, v4, rfl, ho3, ho4, hb3⟩
            rw [HM.out] at ho4
            obtain ⟨b3, d3, rfl, hr3⟩ := ho3.rd (by have := HTL.out; omega)
            obtain ⟨b', d', rfl, hrd'⟩ := ho4.rd (by rw [HL.out]; exact hN)
            rw [HL.out] at ho4 ⊢
            have HF2 : Hid (Fresh (M = []) (M' = []) (w.heap.size + 3) a2 b') := Lib.hid (.inr (.inr fun b o e => by have := (ho4.lt b (by rw [e]; rfl)).1; have := HS.out.T3; have := HS.out.lt; omega))
            have HRC' := Lib.hid (HRC'.out.keep hb3)
            have HRD' := Lib.hid hrd'
            have HR3 := Lib.hid hr3
            have HR1 := Lib.hid ((HO1.out.keep hb3).rd' (by have := HTL.out; omega))
            clear ho3 ho4 hrd' hr3
            have HS := Lib.hid (HS.out.later hb3)
            have HRC := Lib.hid (HRC.out.keep hb3)
            have HRD := Lib.hid (HRD.out.keep hb3)
            have HRL := Lib.hid (HRL.out.keep hb3)
            clear hb3 m0 m1 s0 s1 s2 r0 r1 f0 f1 t0 t1 g0 g1
            have m0 := HS.out.m0
            have m1 := HS.out.m1
            have s0 := HS.out.s0
            have s1 := HS.out.s1
            have s2 := HS.out.s2
            have r0 := HS.out.r0
            have r1 := HS.out.r1
            have f0 := HS.out.f0
            have f1 := HS.out.f1
            have t0 := HS.out.t0
            have t1 := HS.out.t1
            have g0 := HS.out.g0
            have g1 := HS.out.g1
            go_wp2_with fail
            refine (same_is (takeL M n h) (takeL M n h) b1 b3 d1 d3 true _ (sameB_refl _) HR1.out HR3.out).mono ?_
            rintro e w5 ⟨rfl, hb5⟩
            have HRC' := Lib.hid (HRC'.out.keep hb5)
            have HRD' := Lib.hid (HRD'.out.keep hb5)
            have HS := Lib.hid (HS.out.later hb5)
            have HRC := Lib.hid (HRC.out.keep hb5)
            have HRD := Lib.hid (HRD.out.keep hb5)
            have HRL := Lib.hid (HRL.out.keep hb5)
            clear hb5 m0 m1 s0 s1 s2 r0 r1 f0 f1 t0 t1 g0 g1
            have m0 := HS.out.m0
            have m1 := HS.out.m1
            have s0 := HS.out.s0
            have s1 := HS.out.s1
            have s2 := HS.out.s2
            have r0 := HS.out.r0
            have r1 := HS.out.r1
            have f0 := HS.out.f0
            have f1 := HS.out.f1
            have t0 := HS.out.t0
            have t1 := HS.out.t1
            have g0 := HS.out.g0
            have g1 := HS.out.g1
            go_wp2_with fail
            refine bodyPost_ret (v := .tuple #[.agg #[.int .i64 M.length, .slice a' (freeR M').length c'], .slice b' M.length d', .bool true]) ?_ rfl (step_new HL.out HS.out.B HRC'.out HRD'.out HLC.out HLD.out HF1.out HF2.out)
            simp [results, Try.results48, go_sem, r0, r1, f0, f1]
        · have HLF := Lib.hid (lenL_free M hN)
          go_wp2_with fail
          refine (atake_space M.length (freeR M) n h a c _ hN HRC.out HC.out HQ.out (by rw [HLF.out]; omega)).mono ?_
          rintro e w2 ⟨rfl, hb2⟩
          have HS := Lib.hid (HS.out.later hb2)
          have HRC := Lib.hid (HRC.out.keep hb2)
          have HRD := Lib.hid (HRD.out.keep hb2)
          have HRL := Lib.hid (HRL.out.keep hb2)
          clear hb2 m0 m1 s0 s1 s2 r0 r1 f0 f1 t0 t1 g0 g1
          have m0 := HS.out.m0
          have m1 := HS.out.m1
          have s0 := HS.out.s0
          have s1 := HS.out.s1
          have s2 := HS.out.s2
          have r0 := HS.out.r0
          have r1 := HS.out.r1
          have f0 := HS.out.f0
          have f1 := HS.out.f1
          have t0 := HS.out.t0
          have t1 := HS.out.t1
          have g0 := HS.out.g0
          have g1 := HS.out.g1
          have p1 := (HS.out.put (.int .i64 0) (.slice none 0 0)).s1
          have p2 := (HS.out.put (.int .i64 0) (.slice none 0 0)).s2
          go_wp2_with fail
          clear p1 p2
          have HS := Lib.hid (HS.out.put (.int .i64 0) (.slice none 0 0))
          have HRC := Lib.hid ((HRC.out.cell_ne T 0 (.int .i64 0) HAC.out).cell_ne T 1 (.slice none 0 0) HAC.out)
          have HRD := Lib.hid ((HRD.out.cell_ne T 0 (.int .i64 0) HAD.out).cell_ne T 1 (.slice none 0 0) HAD.out)
          have HRL := Lib.hid ((HRL.out.cell_ne T 0 (.int .i64 0) HAL.out).cell_ne T 1 (.slice none 0 0) HAL.out)
          generalize World.setCell (World.setCell _ ⟨T, 0, none⟩ (.int .i64 0)) ⟨T, 1, none⟩ (.slice none 0 0) = W5 at *
          clear m0 m1 s0 s1 s2 r0 r1 f0 f1 t0 t1 g0 g1
          have m0 := HS.out.m0
          have m1 := HS.out.m1
          have s0 := HS.out.s0
          have s1 := HS.out.s1
          have s2 := HS.out.s2
          have r0 := HS.out.r0
          have r1 := HS.out.r1
          have f0 := HS.out.f0
          have f1 := HS.out.f1
          have t0 := HS.out.t0
          have t1 := HS.out.t1
          have g0 := HS.out.g0
          have g1 := HS.out.g1
          refine (qtake_space M n h a2 c2 _ HRD.out hN HQ.out (by omega)).mono ?_
          rintro e w3 ⟨rfl, hb3⟩
          have HS := Lib.hid (HS.out.later hb3)
          have HRC := Lib.hid (HRC.out.keep hb3)
          have HRD := Lib.hid (HRD.out.keep hb3)
          have HRL := Lib.hid (HRL.out.keep hb3)
          clear hb3 m0 m1 s0 s1 s2 r0 r1 f0 f1 t0 t1 g0 g1
          have m0 := HS.out.m0
          have m1 := HS.out.m1
          have s0 := HS.out.s0
          have s1 := HS.out.s1
          have s2 := HS.out.s2
          have r0 := HS.out.r0
          have r1 := HS.out.r1
          have f0 := HS.out.f0
          have f1 := HS.out.f1
          have t0 := HS.out.t0
          have t1 := HS.out.t1
          have g0 := HS.out.g0
          have g1 := HS.out.g1
          go_wp2_with fail
          refine (same_is [] [] none none 0 0 true _ rfl ⟨by simp, .inl rfl⟩ ⟨by simp, .inl rfl⟩).mono ?_
          rintro e w5 ⟨rfl, hb5⟩
          have HS := Lib.hid (HS.out.later hb5)
          have HRC := Lib.hid (HRC.out.keep hb5)
          have HRD := Lib.hid (HRD.out.keep hb5)
          have HRL := Lib.hid (HRL.out.keep hb5)
          clear hb5 m0 m1 s0 s1 s2 r0 r1 f0 f1 t0 t1 g0 g1
          have m0 := HS.out.m0
          have m1 := HS.out.m1
          have s0 := HS.out.s0
          have s1 := HS.out.s1
          have s2 := HS.out.s2
          have r0 := HS.out.r0
          have r1 := HS.out.r1
          have f0 := HS.out.f0
          have f1 := HS.out.f1
          have t0 := HS.out.t0
          have t1 := HS.out.t1
          have g0 := HS.out.g0
          have g1 := HS.out.g1
          go_wp2_with fail
          refine bodyPost_ret (v := .tuple #[.agg #[.int .i64 M.length, .slice a (freeR M).length c], .slice a2 M.length c2, .bool true]) ?_ rfl (step_same HS.out.B HRC.out HRD.out HLC.out HLD.out)
          simp [results, Try.results48, go_sem, r0, r1, f0, f1]
    · have e0 : (k % 4 == 0) = false := by rw [hk]; rfl
      have e1 : (k % 4 == 1) = true := by rw [hk]; rfl
      clear hk
      have hn2 : n ≤ 255 := bn.2
      have hh2 : h ≤ 255 := bh.2
      obtain ⟨n, rfl⟩ := Int.eq_ofNat_of_zero_le bn.1
      obtain ⟨h, rfl⟩ := Int.eq_ofNat_of_zero_le bh.1
      have m0 := HS.out.m0
      have m1 := HS.out.m1
      have s0 := HS.out.s0
      have s1 := HS.out.s1
      have s2 := HS.out.s2
      have r0 := HS.out.r0
      have r1 := HS.out.r1
      have f0 := HS.out.f0
      have f1 := HS.out.f1
      have t0 := HS.out.t0
      have t1 := HS.out.t1
      have g0 := HS.out.g0
      have g1 := HS.out.g1
      cases hq : askB M.length n h
      · have HQ := Lib.hid hq
        clear hq
        go_wp2_with fail
        refine (atake_arg M.length (freeR M) n h a c _ hN HQ.out).mono ?_
        rintro e w2 ⟨rfl, hb2⟩
        have HS := Lib.hid (HS.out.later hb2)
        have HRC := Lib.hid (HRC.out.keep hb2)
        have HRD := Lib.hid (HRD.out.keep hb2)
        have HRL := Lib.hid (HRL.out.keep hb2)
        clear hb2 m0 m1 s0 s1 s2 r0 r1 f0 f1 t0 t1 g0 g1
        have m0 := HS.out.m0
        have m1 := HS.out.m1
        have s0 := HS.out.s0
        have s1 := HS.out.s1
        have s2 := HS.out.s2
        have r0 := HS.out.r0
        have r1 := HS.out.r1
        have f0 := HS.out.f0
        have f1 := HS.out.f1
        have t0 := HS.out.t0
        have t1 := HS.out.t1
        have g0 := HS.out.g0
        have g1 := HS.out.g1
        have p1 := (HS.out.put (.int .i64 0) (.slice none 0 0)).s1
        have p2 := (HS.out.put (.int .i64 0) (.slice none 0 0)).s2
        go_wp2_with fail
        clear p1 p2
        have HS := Lib.hid (HS.out.put (.int .i64 0) (.slice none 0 0))
        have HRC := Lib.hid ((HRC.out.cell_ne T 0 (.int .i64 0) HAC.out).cell_ne T 1 (.slice none 0 0) HAC.out)
        have HRD := Lib.hid ((HRD.out.cell_ne T 0 (.int .i64 0) HAD.out).cell_ne T 1 (.slice none 0 0) HAD.out)
        have HRL := Lib.hid ((HRL.out.cell_ne T 0 (.int .i64 0) HAL.out).cell_ne T 1 (.slice none 0 0) HAL.out)
        generalize World.setCell (World.setCell _ ⟨T, 0, none⟩ (.int .i64 0)) ⟨T, 1, none⟩ (.slice none 0 0) = W5 at *
        clear m0 m1 s0 s1 s2 r0 r1 f0 f1 t0 t1 g0 g1
        have m0 := HS.out.m0
        have m1 := HS.out.m1
        have s0 := HS.out.s0
        have s1 := HS.out.s1
        have s2 := HS.out.s2
        have r0 := HS.out.r0
        have r1 := HS.out.r1
        have f0 := HS.out.f0
        have f1 := HS.out.f1
        have t0 := HS.out.t0
        have t1 := HS.out.t1
        have g0 := HS.out.g0
        have g1 := HS.out.g1
        refine (qtake_arg M n h a2 c2 _ HRD.out hN HQ.out).mono ?_
        rintro e w3 ⟨rfl, hb3⟩
        have HS := Lib.hid (HS.out.later hb3)
        have HRC := Lib.hid (HRC.out.keep hb3)
        have HRD := Lib.hid (HRD.out.keep hb3)
        have HRL := Lib.hid (HRL.out.keep hb3)
        clear hb3 m0 m1 s0 s1 s2 r0 r1 f0 f1 t0 t1 g0 g1
        have m0 := HS.out.m0
        have m1 := HS.out.m1
        have s0 := HS.out.s0
        have s1 := HS.out.s1
        have s2 := HS.out.s2
        have r0 := HS.out.r0
        have r1 := HS.out.r1
        have f0 := HS.out.f0
        have f1 := HS.out.f1
        have t0 := HS.out.t0
        have t1 := HS.out.t1
        have g0 := HS.out.g0
        have g1 := HS.out.g1
        go_wp2_with fail
        refine (same_is [] [] none none 0 0 true _ rfl ⟨by simp, .inl rfl⟩ ⟨by simp, .inl rfl⟩).mono ?_
        rintro e w5 ⟨rfl, hb5⟩
        have HS := Lib.hid (HS.out.later hb5)
        have HRC := Lib.hid (HRC.out.keep hb5)
        have HRD := Lib.hid (HRD.out.keep hb5)
        have HRL := Lib.hid (HRL.out.keep hb5)
        clear hb5 m0 m1 s0 s1 s2 r0 r1 f0 f1 t0 t1 g0 g1
        have m0 := HS.out.m0
        have m1 := HS.out.m1
        have s0 := HS.out.s0
        have s1 := HS.out.s1
        have s2 := HS.out.s2
        have r0 := HS.out.r0
        have r1 := HS.out.r1
        have f0 := HS.out.f0
        have f1 := HS.out.f1
        have t0 := HS.out.t0
        have t1 := HS.out.t1
        have g0 := HS.out.g0
        have g1 := HS.out.g1
        go_wp2_with fail
        refine bodyPost_ret (v := .tuple #[.agg #[.int .i64 M.length, .slice a (freeR M).length c], .slice a2 M.length c2, .bool true]) ?_ rfl (step_same HS.out.B HRC.out HRD.out HLC.out HLD.out)
        simp [results, Try.results48, go_sem, r0, r1, f0, f1]
      · have HQ := Lib.hid hq
        have hhM : h ≤ M.length := by have := (askB_iff _ _ _).1 hq; omega
        clear hq
        by_cases hf : n ≤ area (freeF M) M.length
        · by_cases h0 : n = 0
          · subst h0
            have HCH := Lib.hid (chgM_nil M true)
            go_wp2_with fail
            refine (atake_zero M.length (freeR M) h a c _ hN HRC.out HC.out HQ.out).mono ?_
            rintro e w2 ⟨rfl, hb2⟩
            have HS := Lib.hid (HS.out.later hb2)
            have HRC := Lib.hid (HRC.out.keep hb2)
            have HRD := Lib.hid (HRD.out.keep hb2)
            have HRL := Lib.hid (HRL.out.keep hb2)
            clear hb2 m0 m1 s0 s1 s2 r0 r1 f0 f1 t0 t1 g0 g1
            have m0 := HS.out.m0
            have m1 := HS.out.m1
            have s0 := HS.out.s0
            have s1 := HS.out.s1
            have s2 := HS.out.s2
            have r0 := HS.out.r0
            have r1 := HS.out.r1
            have f0 := HS.out.f0
            have f1 := HS.out.f1
            have t0 := HS.out.t0
            have t1 := HS.out.t1
            have g0 := HS.out.g0
            have g1 := HS.out.g1
            have p1 := (HS.out.put (.int .i64 M.length) (.slice a (freeR M).length c)).s1
            have p2 := (HS.out.put (.int .i64 M.length) (.slice a (freeR M).length c)).s2
            go_wp2_with fail
            clear p1 p2
            have HRC' := Lib.hid ((HRC.out.cell_ne T 0 (.int .i64 M.length) HAC.out).cell_ne T 1 (.slice a (freeR M).length c) HAC.out)
            have HS := Lib.hid (HS.out.put (.int .i64 M.length) (.slice a (freeR M).length c))
            have HRC := Lib.hid ((HRC.out.cell_ne T 0 (.int .i64 M.length) HAC.out).cell_ne T 1 (.slice a (freeR M).length c) HAC.out)
            have HRD := Lib.hid ((HRD.out.cell_ne T 0 (.int .i64 M.length) HAD.out).cell_ne T 1 (.slice a (freeR M).length c) HAD.out)
            have HRL := Lib.hid ((HRL.out.cell_ne T 0 (.int .i64 M.length) HAL.out).cell_ne T 1 (.slice a (freeR M).length c) HAL.out)
            generalize World.setCell (World.setCell _ ⟨T, 0, none⟩ (.int .i64 M.length)) ⟨T, 1, none⟩ (.slice a (freeR M).length c) = W5 at *
            clear m0 m1 s0 s1 s2 r0 r1 f0 f1 t0 t1 g0 g1
            have m0 := HS.out.m0
            have m1 := HS.out.m1
            have s0 := HS.out.s0
            have s1 := HS.out.s1
            have s2 := HS.out.s2
            have r0 := HS.out.r0
            have r1 := HS.out.r1
            have f0 := HS.out.f0
            have f1 := HS.out.f1
            have t0 := HS.out.t0
            have t1 := HS.out.t1
            have g0 := HS.out.g0
            have g1 := HS.out.g1
            refine (qtake_yes M 0 h a2 c2 _ HRD.out hN hhM (by omega)).mono ?_
            rintro e w3 ⟨v1, v2, rfl, ho1, ho2, hb3⟩
            rw [takeL_zero, HCH.out] at ho2
            rw [takeL_zero] at ho1
            obtain ⟨b1, d1, rfl, hr1⟩ := ho1.rd (by simp)
            obtain ⟨b', d', rfl, hrd'⟩ := ho2.rd hN
            have HF1 : Hid (Fresh (freeR M = []) (freeR M = []) (w.heap.size + 3) a a) := Lib.hid (Fresh.self _ _ _)
            have HF2 : Hid (Fresh (M = []) (M = []) (w.heap.size + 3) a2 b') := Lib.hid (.inr (.inr fun b o e => by have := (ho2.lt b (by rw [e]; rfl)).1; have := HS.out.T3; have := HS.out.lt; omega))
            have HRC' := Lib.hid (HRC'.out.keep hb3)
            have HRD' := Lib.hid hrd'
            have HR1 := Lib.hid hr1
            clear ho1 ho2 hrd' hr1
            have HS := Lib.hid (HS.out.later hb3)
            have HRC := Lib.hid (HRC.out.keep hb3)
            have HRD := Lib.hid (HRD.out.keep hb3)
            have HRL := Lib.hid (HRL.out.keep hb3)
            clear hb3 m0 m1 s0 s1 s2 r0 r1 f0 f1 t0 t1 g0 g1
            have m0 := HS.out.m0
            have m1 := HS.out.m1
            have s0 := HS.out.s0
            have s1 := HS.out.s1
            have s2 := HS.out.s2
            have r0 := HS.out.r0
            have r1 := HS.out.r1
            have f0 := HS.out.f0
            have f1 := HS.out.f1
            have t0 := HS.out.t0
            have t1 := HS.out.t1
            have g0 := HS.out.g0
            have g1 := HS.out.g1
            go_wp2_with fail
            refine (same_is [] [] none b1 0 d1 true _ rfl ⟨by simp, .inl rfl⟩ HR1.out).mono ?_
            rintro e w5 ⟨rfl, hb5⟩
            have HRC' := Lib.hid (HRC'.out.keep hb5)
            have HRD' := Lib.hid (HRD'.out.keep hb5)
            have HS := Lib.hid (HS.out.later hb5)
            have HRC := Lib.hid (HRC.out.keep hb5)
            have HRD := Lib.hid (HRD.out.keep hb5)
            have HRL := Lib.hid (HRL.out.keep hb5)
            clear hb5 m0 m1 s0 s1 s2 r0 r1 f0 f1 t0 t1 g0 g1
            have m0 := HS.out.m0
            have m1 := HS.out.m1
            have s0 := HS.out.s0
            have s1 := HS.out.s1
            have s2 := HS.out.s2
            have r0 := HS.out.r0
            have r1 := HS.out.r1
            have f0 := HS.out.f0
            have f1 := HS.out.f1
            have t0 := HS.out.t0
            have t1 := HS.out.t1
            have g0 := HS.out.g0
            have g1 := HS.out.g1
            go_wp2_with fail
            refine bodyPost_ret (v := .tuple #[.agg #[.int .i64 M.length, .slice a (freeR M).length c], .slice b' M.length d', .bool true]) ?_ rfl (step_new rfl HS.out.B HRC'.out HRD'.out HLC.out HLD.out HF1.out HF2.out)
            simp [results, Try.results48, go_sem, r0, r1, f0, f1]
          · have HTL := Lib.hid (takeL_wf hN (n := n) (h := h) hf).2
            have HL := Lib.hid (chgM_length M (takeL M n h) true)
            go_wp2_with fail
            refine (atake_yes M n h a c _ HRC.out hN hhM (by omega) hf).mono ?_
            rintro e w2 ⟨v1, v2, rfl, ho1, ⟨a', c', rfl, hr', hfr'⟩, hb2⟩
            have hTl := HS.out.lt
            have hT3 := HS.out.T3
            have HF1 := Lib.hid (hfr'.mono (B' := w.heap.size + 3) (by omega))
            have HAC' := Lib.hid (hfr'.away HAC.out HS.out.lt)
            have HRC' := Lib.hid hr'
            obtain ⟨b1, d1, rfl, _⟩ := ho1.rd (by have := HTL.out; omega)
            have hne : (Value.slice b1 (takeL M n h).length d1).ownBlock ≠ some T := fun e => by have := (ho1.lt _ e).1; omega
            generalize hM : chgM M (takeL M n h) true = M' at *
            have HM := Lib.hid hM
            have HO1 := Lib.hid ((ho1.away ⟨T, 0, none⟩ (.int .i64 M.length) hne).away ⟨T, 1, none⟩ (.slice a' (freeR M').length c') hne)
            clear hr' hfr' hM hTl hT3 ho1 hne
            have HS := Lib.hid (HS.out.later hb2)
            have HRC := Lib.hid (HRC.out.keep hb2)
            have HRD := Lib.hid (HRD.out.keep hb2)
            have HRL := Lib.hid (HRL.out.keep hb2)
            clear hb2 m0 m1 s0 s1 s2 r0 r1 f0 f1 t0 t1 g0 g1
            have m0 := HS.out.m0
            have m1 := HS.out.m1
            have s0 := HS.out.s0
            have s1 := HS.out.s1
            have s2 := HS.out.s2
            have r0 := HS.out.r0
            have r1 := HS.out.r1
            have f0 := HS.out.f0
            have f1 := HS.out.f1
            have t0 := HS.out.t0
            have t1 := HS.out.t1
            have g0 := HS.out.g0
            have g1 := HS.out.g1
            have p1 := (HS.out.put (.int .i64 M.length) (.slice a' (freeR M').length c')).s1
            have p2 := (HS.out.put (.int .i64 M.length) (.slice a' (freeR M').length c')).s2
            go_wp2_with fail
            clear p1 p2
            have HRC' := Lib.hid ((HRC'.out.cell_ne T 0 (.int .i64 M.length) HAC'.out).cell_ne T 1 (.slice a' (freeR M').length c') HAC'.out)
            have HS := Lib.hid (HS.out.put (.int .i64 M.length) (.slice a' (freeR M').length c'))
            have HRC := Lib.hid ((HRC.out.cell_ne T 0 (.int .i64 M.length) HAC.out).cell_ne T 1 (.slice a' (freeR M').length c') HAC.out)
            have HRD := Lib.hid ((HRD.out.cell_ne T 0 (.int .i64 M.length) HAD.out).cell_ne T 1 (.slice a' (freeR M').length c') HAD.out)
            have HRL := Lib.hid ((HRL.out.cell_ne T 0 (.int .i64 M.length) HAL.out).cell_ne T 1 (.slice a' (freeR M').length c') HAL.out)
            generalize World.setCell (World.setCell _ ⟨T, 0, none⟩ (.int .i64 M.length)) ⟨T, 1, none⟩ (.slice a' (freeR M').length c') = W5 at *
            clear m0 m1 s0 s1 s2 r0 r1 f0 f1 t0 t1 g0 g1
            have m0 := HS.out.m0
            have m1 := HS.out.m1
            have s0 := HS.out.s0
            have s1 := HS.out.s1
            have s2 := HS.out.s2
            have r0 := HS.out.r0
            have r1 := HS.out.r1
            have f0 := HS.out.f0
            have f1 := HS.out.f1
            have t0 := HS.out.t0
            have t1 := HS.out.t1
            have g0 := HS.out.g0
            have g1 := HS.out.g1
            refine (qtake_yes M n h a2 c2 _ HRD.out hN hhM hf).mono ?_
            rintro e w3 ⟨v3, v4, rfl, ho3, ho4, hb3⟩
            rw [HM.out] at ho4
            obtain ⟨b3, d3, rfl, hr3⟩ := ho3.rd (by have := HTL.out; omega)
            obtain ⟨b', d', rfl, hrd'⟩ := ho4.rd (by rw [HL.out]; exact hN)
            rw [HL.out] at ho4 ⊢
            have HF2 : Hid (Fresh (M = []) (M' = []) (w.heap.size + 3) a2 b') := Lib.hid (.inr (.inr fun b o e => by have := (ho4.lt b (by rw [e]; rfl)).1; have := HS.out.T3; have := HS.out.lt; omega))
            have HRC' := Lib.hid (HRC'.out.keep hb3)
            have HRD' := Lib.hid hrd'
            have HR3 := Lib.hid hr3
            have HR1 := Lib.hid ((HO1.out.keep hb3).rd' (by have := HTL.out; omega))
            clear ho3 ho4 hrd' hr3
            have HS := Lib.hid (HS.out.later hb3)
            have HRC := Lib.hid (HRC.out.keep hb3)
            have HRD := Lib.hid (HRD.out.keep hb3)
            have HRL := Lib.hid (HRL.out.keep hb3)
            clear hb3 m0 m1 s0 s1 s2 r0 r1 f0 f1 t0 t1 g0 g1
            have m0 := HS.out.m0
            have m1 := HS.out.m1
            have s0 := HS.out.s0
            have s1 := HS.out.s1
            have s2 := HS.out.s2
            have r0 := HS.out.r0
            have r1 := HS.out.r1
            have f0 := HS.out.f0
            have f1 := HS.out.f1
            have t0 := HS.out.t0
            have t1 := HS.out.t1
            have g0 := HS.out.g0
            have g1 := HS.out.g1
            go_wp2_with fail
            refine (same_is (takeL M n h) (takeL M n h) b1 b3 d1 d3 true _ (sameB_refl _) HR1.out HR3.out).mono ?_
            rintro e w5 ⟨rfl, hb5⟩
            have HRC' := Lib.hid (HRC'.out.keep hb5)
            have HRD' := Lib.hid (HRD'.out.keep hb5)
            have HS := Lib.hid (HS.out.later hb5)
            have HRC := Lib.hid (HRC.out.keep hb5)
            have HRD := Lib.hid (HRD.out.keep hb5)
            have HRL := Lib.hid (HRL.out.keep hb5)
            clear hb5 m0 m1 s0 s1 s2 r0 r1 f0 f1 t0 t1 g0 g1
            have m0 := HS.out.m0
            have m1 := HS.out.m1
            have s0 := HS.out.s0
            have s1 := HS.out.s1
            have s2 := HS.out.s2
            have r0 := HS.out.r0
            have r1 := HS.out.r1
            have f0 := HS.out.f0
            have f1 := HS.out.f1
            have t0 := HS.out.t0
            have t1 := HS.out.t1
            have g0 := HS.out.g0
            have g1 := HS.out.g1
            go_wp2_with fail
            refine bodyPost_ret (v := .tuple #[.agg #[.int .i64 M.length, .slice a' (freeR M').length c'], .slice b' M.length d', .bool true]) ?_ rfl (step_new HL.out HS.out.B HRC'.out HRD'.out HLC.out HLD.out HF1.out HF2.out)
            simp [results, Try.results48, go_sem, r0, r1, f0, f1]
        · have HLF := Lib.hid (lenL_free M hN)
          go_wp2_with fail
          refine (atake_space M.length (freeR M) n h a c _ hN HRC.out HC.out HQ.out (by rw [HLF.out]; omega)).mono ?_
          rintro e w2 ⟨rfl, hb2⟩
          have HS := Lib.hid (HS.out.later hb2)
          have HRC := Lib.hid (HRC.out.keep hb2)
          have HRD := Lib.hid (HRD.out.keep hb2)
          have HRL := Lib.hid (HRL.out.keep hb2)
          clear hb2 m0 m1 s0 s1 s2 r0 r1 f0 f1 t0 t1 g0 g1
          have m0 := HS.out.m0
          have m1 := HS.out.m1
          have s0 := HS.out.s0
          have s1 := HS.out.s1
          have s2 := HS.out.s2
          have r0 := HS.out.r0
          have r1 := HS.out.r1
          have f0 := HS.out.f0
          have f1 := HS.out.f1
          have t0 := HS.out.t0
          have t1 := HS.out.t1
          have g0 := HS.out.g0
          have g1 := HS.out.g1
          have p1 := (HS.out.put (.int .i64 0) (.slice none 0 0)).s1
          have p2 := (HS.out.put (.int .i64 0) (.slice none 0 0)).s2
          go_wp2_with fail
          clear p1 p2
          have HS := Lib.hid (HS.out.put (.int .i64 0) (.slice none 0 0))
          have HRC := Lib.hid ((HRC.out.cell_ne T 0 (.int .i64 0) HAC.out).cell_ne T 1 (.slice none 0 0) HAC.out)
          have HRD := Lib.hid ((HRD.out.cell_ne T 0 (.int .i64 0) HAD.out).cell_ne T 1 (.slice none 0 0) HAD.out)
          have HRL := Lib.hid ((HRL.out.cell_ne T 0 (.int .i64 0) HAL.out).cell_ne T 1 (.slice none 0 0) HAL.out)
          generalize World.setCell (World.setCell _ ⟨T, 0, none⟩ (.int .i64 0)) ⟨T, 1, none⟩ (.slice none 0 0) = W5 at *
          clear m0 m1 s0 s1 s2 r0 r1 f0 f1 t0 t1 g0 g1
          have m0 := HS.out.m0
          have m1 := HS.out.m1
          have s0 := HS.out.s0
          have s1 := HS.out.s1
          have s2 := HS.out.s2
          have r0 := HS.out.r0
          have r1 := HS.out.r1
          have f0 := HS.out.f0
          have f1 := HS.out.f1
          have t0 := HS.out.t0
          have t1 := HS.out.t1
          have g0 := HS.out.g0
          have g1 := HS.out.g1
          refine (qtake_space M n h a2 c2 _ HRD.out hN HQ.out (by omega)).mono ?_
          rintro e w3 ⟨rfl, hb3⟩
          have HS := Lib.hid (HS.out.later hb3)
          have HRC := Lib.hid (HRC.out.keep hb3)
          have HRD := Lib.hid (HRD.out.keep hb3)
          have HRL := Lib.hid (HRL.out.keep hb3)
          clear hb3 m0 m1 s0 s1 s2 r0 r1 f0 f1 t0 t1 g0 g1
          have m0 := HS.out.m0
          have m1 := HS.out.m1
          have s0 := HS.out.s0
          have s1 := HS.out.s1
          have s2 := HS.out.s2
          have r0 := HS.out.r0
          have r1 := HS.out.r1
          have f0 := HS.out.f0
          have f1 := HS.out.f1
          have t0 := HS.out.t0
          have t1 := HS.out.t1
          have g0 := HS.out.g0
          have g1 := HS.out.g1
          go_wp2_with fail
          refine (same_is [] [] none none 0 0 true _ rfl ⟨by simp, .inl rfl⟩ ⟨by simp, .inl rfl⟩).mono ?_
          rintro e w5 ⟨rfl, hb5⟩
          have HS := Lib.hid (HS.out.later hb5)
          have HRC := Lib.hid (HRC.out.keep hb5)
          have HRD := Lib.hid (HRD.out.keep hb5)
          have HRL := Lib.hid (HRL.out.keep hb5)
          clear hb5 m0 m1 s0 s1 s2 r0 r1 f0 f1 t0 t1 g0 g1
          have m0 := HS.out.m0
          have m1 := HS.out.m1
          have s0 := HS.out.s0
          have s1 := HS.out.s1
          have s2 := HS.out.s2
          have r0 := HS.out.r0
          have r1 := HS.out.r1
          have f0 := HS.out.f0
          have f1 := HS.out.f1
          have t0 := HS.out.t0
          have t1 := HS.out.t1
          have g0 := HS.out.g0
          have g1 := HS.out.g1
          go_wp2_with fail
          refine bodyPost_ret (v := .tuple #[.agg #[.int .i64 M.length, .slice a (freeR M).length c], .slice a2 M.length c2, .bool true]) ?_ rfl (step_same HS.out.B HRC.out HRD.out HLC.out HLD.out)
          simp [results, Try.results48, go_sem, r0, r1, f0, f1]
  · have e0 : (k % 4 == 0) = false := by rw [hk]; rfl
    have e1 : (k % 4 == 1) = false := by rw [hk]; rfl
    have e2 : (k % 4 == 2) = true := by rw [hk]; rfl
    clear hk
    have m0 := HS.out.m0
    have m1 := HS.out.m1
    have s0 := HS.out.s0
    have s1 := HS.out.s1
    have s2 := HS.out.s2
    have r0 := HS.out.r0
    have r1 := HS.out.r1
    have f0 := HS.out.f0
    have f1 := HS.out.f1
    have t0 := HS.out.t0
    have t1 := HS.out.t1
    have g0 := HS.out.g0
    have g1 := HS.out.g1
    go_wp2_with fail
    refine (amark_any M l a la c lc _ hN HRC.out HRL.out HW.out (by omega)).mono ?_
    rintro e w2 hp
    have hb2 := hp.1
    rcases hp.2 with ⟨h1, rfl⟩ | ⟨h1, h2, rfl⟩ | ⟨h1, h2, v2, rfl, hn2⟩
    · have HX := Lib.hid h1
      clear hp h1
      have HS := Lib.hid (HS.out.later hb2)
      have HRC := Lib.hid (HRC.out.keep hb2)
      have HRD := Lib.hid (HRD.out.keep hb2)
      have HRL := Lib.hid (HRL.out.keep hb2)
      clear hb2 m0 m1 s0 s1 s2 r0 r1 f0 f1 t0 t1 g0 g1
      have m0 := HS.out.m0
      have m1 := HS.out.m1
      have s0 := HS.out.s0
      have s1 := HS.out.s1
      have s2 := HS.out.s2
      have r0 := HS.out.r0
      have r1 := HS.out.r1
      have f0 := HS.out.f0
      have f1 := HS.out.f1
      have t0 := HS.out.t0
      have t1 := HS.out.t1
      have g0 := HS.out.g0
      have g1 := HS.out.g1
      go_wp2_with fail
      have HS := Lib.hid (HS.out.put (.int .i64 0) (.slice none 0 0))
      have HRC := Lib.hid ((HRC.out.cell_ne T 0 (.int .i64 0) HAC.out).cell_ne T 1 (.slice none 0 0) HAC.out)
      have HRD := Lib.hid ((HRD.out.cell_ne T 0 (.int .i64 0) HAD.out).cell_ne T 1 (.slice none 0 0) HAD.out)
      have HRL := Lib.hid ((HRL.out.cell_ne T 0 (.int .i64 0) HAL.out).cell_ne T 1 (.slice none 0 0) HAL.out)
      generalize World.setCell (World.setCell _ ⟨T, 0, none⟩ (.int .i64 0)) ⟨T, 1, none⟩ (.slice none 0 0) = W5 at *
      clear m0 m1 s0 s1 s2 r0 r1 f0 f1 t0 t1 g0 g1
      have m0 := HS.out.m0
      have m1 := HS.out.m1
      have s0 := HS.out.s0
      have s1 := HS.out.s1
      have s2 := HS.out.s2
      have r0 := HS.out.r0
      have r1 := HS.out.r1
      have f0 := HS.out.f0
      have f1 := HS.out.f1
      have t0 := HS.out.t0
      have t1 := HS.out.t1
      have g0 := HS.out.g0
      have g1 := HS.out.g1
      refine (qmark_any M l a2 la c2 lc _ HRD.out hN HRL.out HW.out).mono ?_
      rintro e w3 hp
      have hb3 := hp.1
      rcases hp.2 with ⟨h1, rfl⟩ | ⟨h1, _, _⟩ | ⟨h1, _⟩
      · clear hp
        have HS := Lib.hid (HS.out.later hb3)
        have HRC := Lib.hid (HRC.out.keep hb3)
        have HRD := Lib.hid (HRD.out.keep hb3)
        have HRL := Lib.hid (HRL.out.keep hb3)
        clear hb3 m0 m1 s0 s1 s2 r0 r1 f0 f1 t0 t1 g0 g1
        have m0 := HS.out.m0
        have m1 := HS.out.m1
        have s0 := HS.out.s0
        have s1 := HS.out.s1
        have s2 := HS.out.s2
        have r0 := HS.out.r0
        have r1 := HS.out.r1
        have f0 := HS.out.f0
        have f1 := HS.out.f1
        have t0 := HS.out.t0
        have t1 := HS.out.t1
        have g0 := HS.out.g0
        have g1 := HS.out.g1
        go_wp2_with fail
        refine (same_is [] [] none none 0 0 true _ rfl ⟨by simp, .inl rfl⟩ ⟨by simp, .inl rfl⟩).mono ?_
        rintro e w5 ⟨rfl, hb5⟩
        have HS := Lib.hid (HS.out.later hb5)
        have HRC := Lib.hid (HRC.out.keep hb5)
        have HRD := Lib.hid (HRD.out.keep hb5)
        have HRL := Lib.hid (HRL.out.keep hb5)
        clear hb5 m0 m1 s0 s1 s2 r0 r1 f0 f1 t0 t1 g0 g1
        have m0 := HS.out.m0
        have m1 := HS.out.m1
        have s0 := HS.out.s0
        have s1 := HS.out.s1
        have s2 := HS.out.s2
        have r0 := HS.out.r0
        have r1 := HS.out.r1
        have f0 := HS.out.f0
        have f1 := HS.out.f1
        have t0 := HS.out.t0
        have t1 := HS.out.t1
        have g0 := HS.out.g0
        have g1 := HS.out.g1
        go_wp2_with fail
        refine bodyPost_ret (v := .tuple #[.agg #[.int .i64 M.length, .slice a (freeR M).length c], .slice a2 M.length c2, .bool true]) ?_ rfl (step_same HS.out.B HRC.out HRD.out HLC.out HLD.out)
        simp [results, Try.results48, go_sem, r0, r1, f0, f1]
      · exact absurd h1 (by rw [HX.out]; simp)
      · exact absurd h1 (by rw [HX.out]; simp)
    · have HX := Lib.hid h1
      have HY := Lib.hid h2
      clear hp h1 h2
      have HS := Lib.hid (HS.out.later hb2)
      have HRC := Lib.hid (HRC.out.keep hb2)
      have HRD := Lib.hid (HRD.out.keep hb2)
      have HRL := Lib.hid (HRL.out.keep hb2)
      clear hb2 m0 m1 s0 s1 s2 r0 r1 f0 f1 t0 t1 g0 g1
      have m0 := HS.out.m0
      have m1 := HS.out.m1
      have s0 := HS.out.s0
      have s1 := HS.out.s1
      have s2 := HS.out.s2
      have r0 := HS.out.r0
      have r1 := HS.out.r1
      have f0 := HS.out.f0
      have f1 := HS.out.f1
      have t0 := HS.out.t0
      have t1 := HS.out.t1
      have g0 := HS.out.g0
      have g1 := HS.out.g1
      go_wp2_with fail
      have HS := Lib.hid (HS.out.put (.int .i64 0) (.slice none 0 0))
      have HRC := Lib.hid ((HRC.out.cell_ne T 0 (.int .i64 0) HAC.out).cell_ne T 1 (.slice none 0 0) HAC.out)
      have HRD := Lib.hid ((HRD.out.cell_ne T 0 (.int .i64 0) HAD.out).cell_ne T 1 (.slice none 0 0) HAD.out)
      have HRL := Lib.hid ((HRL.out.cell_ne T 0 (.int .i64 0) HAL.out).cell_ne T 1 (.slice none 0 0) HAL.out)
      generalize World.setCell (World.setCell _ ⟨T, 0, none⟩ (.int .i64 0)) ⟨T, 1, none⟩ (.slice none 0 0) = W5 at *
      clear m0 m1 s0 s1 s2 r0 r1 f0 f1 t0 t1 g0 g1
      have m0 := HS.out.m0
      have m1 := HS.out.m1
      have s0 := HS.out.s0
      have s1 := HS.out.s1
      have s2 := HS.out.s2
      have r0 := HS.out.r0
      have r1 := HS.out.r1
      have f0 := HS.out.f0
      have f1 := HS.out.f1
      have t0 := HS.out.t0
      have t1 := HS.out.t1
      have g0 := HS.out.g0
      have g1 := HS.out.g1
      refine (qmark_any M l a2 la c2 lc _ HRD.out hN HRL.out HW.out).mono ?_
      rintro e w3 hp
      have hb3 := hp.1
      rcases hp.2 with ⟨h1, _⟩ | ⟨h1, _, rfl⟩ | ⟨_, h1, _⟩
      · exact absurd h1 (by rw [HX.out]; simp)
      · clear hp
        have HS := Lib.hid (HS.out.later hb3)
        have HRC := Lib.hid (HRC.out.keep hb3)
        have HRD := Lib.hid (HRD.out.keep hb3)
        have HRL := Lib.hid (HRL.out.keep hb3)
        clear hb3 m0 m1 s0 s1 s2 r0 r1 f0 f1 t0 t1 g0 g1
        have m0 := HS.out.m0
        have m1 := HS.out.m1
        have s0 := HS.out.s0
        have s1 := HS.out.s1
        have s2 := HS.out.s2
        have r0 := HS.out.r0
        have r1 := HS.out.r1
        have f0 := HS.out.f0
        have f1 := HS.out.f1
        have t0 := HS.out.t0
        have t1 := HS.out.t1
        have g0 := HS.out.g0
        have g1 := HS.out.g1
        go_wp2_with fail
        refine (same_is [] [] none none 0 0 true _ rfl ⟨by simp, .inl rfl⟩ ⟨by simp, .inl rfl⟩).mono ?_
        rintro e w5 ⟨rfl, hb5⟩
        have HS := Lib.hid (HS.out.later hb5)
        have HRC := Lib.hid (HRC.out.keep hb5)
        have HRD := Lib.hid (HRD.out.keep hb5)
        have HRL := Lib.hid (HRL.out.keep hb5)
        clear hb5 m0 m1 s0 s1 s2 r0 r1 f0 f1 t0 t1 g0 g1
        have m0 := HS.out.m0
        have m1 := HS.out.m1
        have s0 := HS.out.s0
        have s1 := HS.out.s1
        have s2 := HS.out.s2
        have r0 := HS.out.r0
        have r1 := HS.out.r1
        have f0 := HS.out.f0
        have f1 := HS.out.f1
        have t0 := HS.out.t0
        have t1 := HS.out.t1
        have g0 := HS.out.g0
        have g1 := HS.out.g1
        go_wp2_with fail
        refine bodyPost_ret (v := .tuple #[.agg #[.int .i64 M.length, .slice a (freeR M).length c], .slice a2 M.length c2, .bool true]) ?_ rfl (step_same HS.out.B HRC.out HRD.out HLC.out HLD.out)
        simp [results, Try.results48, go_sem, r0, r1, f0, f1]
      · exact absurd h1 HY.out
    · have HX := Lib.hid h1
      have HY := Lib.hid h2
      obtain ⟨a', c', rfl, hr', hfr'⟩ := hn2
      have HF1 := Lib.hid (hfr'.mono (B' := w.heap.size + 3) (by have := HS.out.T3; have := HS.out.lt; omega))
      have hlen := chgM_length M l true
      have HL := Lib.hid hlen
      generalize hM : chgM M l true = M' at *
      have HM := Lib.hid hM
      have HAC' := Lib.hid (hfr'.away HAC.out HS.out.lt)
      have HRC' := Lib.hid hr'
      clear hp h1 h2 hr' hfr' hM hlen
      have HS := Lib.hid (HS.out.later hb2)
      have HRC := Lib.hid (HRC.out.keep hb2)
      have HRD := Lib.hid (HRD.out.keep hb2)
      have HRL := Lib.hid (HRL.out.keep hb2)
      clear hb2 m0 m1 s0 s1 s2 r0 r1 f0 f1 t0 t1 g0 g1
      have m0 := HS.out.m0
      have m1 := HS.out.m1
      have s0 := HS.out.s0
      have s1 := HS.out.s1
      have s2 := HS.out.s2
      have r0 := HS.out.r0
      have r1 := HS.out.r1
      have f0 := HS.out.f0
      have f1 := HS.out.f1
      have t0 := HS.out.t0
      have t1 := HS.out.t1
      have g0 := HS.out.g0
      have g1 := HS.out.g1
      go_wp2_with fail
      have HRC' := Lib.hid ((HRC'.out.cell_ne T 0 (.int .i64 M.length) HAC'.out).cell_ne T 1 (.slice a' (freeR M').length c') HAC'.out)
      have HS := Lib.hid (HS.out.put (.int .i64 M.length) (.slice a' (freeR M').length c'))
      have HRC := Lib.hid ((HRC.out.cell_ne T 0 (.int .i64 M.length) HAC.out).cell_ne T 1 (.slice a' (freeR M').length c') HAC.out)
      have HRD := Lib.hid ((HRD.out.cell_ne T 0 (.int .i64 M.length) HAD.out).cell_ne T 1 (.slice a' (freeR M').length c') HAD.out)
      have HRL := Lib.hid ((HRL.out.cell_ne T 0 (.int .i64 M.length) HAL.out).cell_ne T 1 (.slice a' (freeR M').length c') HAL.out)
      generalize World.setCell (World.setCell _ ⟨T, 0, none⟩ (.int .i64 M.length)) ⟨T, 1, none⟩ (.slice a' (freeR M').length c') = W5 at *
      clear m0 m1 s0 s1 s2 r0 r1 f0 f1 t0 t1 g0 g1
      have m0 := HS.out.m0
      have m1 := HS.out.m1
      have s0 := HS.out.s0
      have s1 := HS.out.s1
      have s2 := HS.out.s2
      have r0 := HS.out.r0
      have r1 := HS.out.r1
      have f0 := HS.out.f0
      have f1 := HS.out.f1
      have t0 := HS.out.t0
      have t1 := HS.out.t1
      have g0 := HS.out.g0
      have g1 := HS.out.g1
      refine (qmark_any M l a2 la c2 lc _ HRD.out hN HRL.out HW.out).mono ?_
      rintro e w3 hp
      have hb3 := hp.1
      rcases hp.2 with ⟨h1, _⟩ | ⟨_, h1, _⟩ | ⟨_, _, v3, rfl, ho3⟩
      · exact absurd h1 (by rw [HX.out]; simp)
      · exact absurd HY.out h1
      · rw [HM.out] at ho3
        obtain ⟨b', d', rfl, hrd'⟩ := ho3.rd (by rw [HL.out]; exact hN)
        rw [HL.out] at ho3 ⊢
        have HF2 : Hid (Fresh (M = []) (M' = []) (w.heap.size + 3) a2 b') := Lib.hid (.inr (.inr fun b o e => by have := (ho3.lt b (by rw [e]; rfl)).1; have := HS.out.T3; have := HS.out.lt; omega))
        have HRC' := Lib.hid (HRC'.out.keep hb3)
        have HRD' := Lib.hid hrd'
        clear hp ho3 hrd'
        have HS := Lib.hid (HS.out.later hb3)
        have HRC := Lib.hid (HRC.out.keep hb3)
        have HRD := Lib.hid (HRD.out.keep hb3)
        have HRL := Lib.hid (HRL.out.keep hb3)
        clear hb3 m0 m1 s0 s1 s2 r0 r1 f0 f1 t0 t1 g0 g1
        have m0 := HS.out.m0
        have m1 := HS.out.m1
        have s0 := HS.out.s0
        have s1 := HS.out.s1
        have s2 := HS.out.s2
        have r0 := HS.out.r0
        have r1 := HS.out.r1
        have f0 := HS.out.f0
        have f1 := HS.out.f1
        have t0 := HS.out.t0
        have t1 := HS.out.t1
        have g0 := HS.out.g0
        have g1 := HS.out.g1
        go_wp2_with fail
        refine (same_is [] [] none none 0 0 true _ rfl ⟨by simp, .inl rfl⟩ ⟨by simp, .inl rfl⟩).mono ?_
        rintro e w5 ⟨rfl, hb5⟩
        have HRC' := Lib.hid (HRC'.out.keep hb5)
        have HRD' := Lib.hid (HRD'.out.keep hb5)
        have HS := Lib.hid (HS.out.later hb5)
        have HRC := Lib.hid (HRC.out.keep hb5)
        have HRD := Lib.hid (HRD.out.keep hb5)
        have HRL := Lib.hid (HRL.out.keep hb5)
        clear hb5 m0 m1 s0 s1 s2 r0 r1 f0 f1 t0 t1 g0 g1
        have m0 := HS.out.m0
        have m1 := HS.out.m1
        have s0 := HS.out.s0
        have s1 := HS.out.s1
        have s2 := HS.out.s2
        have r0 := HS.out.r0
        have r1 := HS.out.r1
        have f0 := HS.out.f0
        have f1 := HS.out.f1
        have t0 := HS.out.t0
        have t1 := HS.out.t1
        have g0 := HS.out.g0
        have g1 := HS.out.g1
        go_wp2_with fail
        refine bodyPost_ret (v := .tuple #[.agg #[.int .i64 M.length, .slice a' (freeR M').length c'], .slice b' M.length d', .bool true]) ?_ rfl (step_new HL.out HS.out.B HRC'.out HRD'.out HLC.out HLD.out HF1.out HF2.out)
        simp [results, Try.results48, go_sem, r0, r1, f0, f1]
  · have e0 : (k % 4 == 0) = false := by rw [hk]; rfl
    have e1 : (k % 4 == 1) = false := by rw [hk]; rfl
    have e2 : (k % 4 == 2) = false := by rw [hk]; rfl
    clear hk
    have m0 := HS.out.m0
    have m1 := HS.out.m1
    have s0 := HS.out.s0
    have s1 := HS.out.s1
    have s2 := HS.out.s2
    have r0 := HS.out.r0
    have r1 := HS.out.r1
    have f0 := HS.out.f0
    have f1 := HS.out.f1
    have t0 := HS.out.t0
    have t1 := HS.out.t1
    have g0 := HS.out.g0
    have g1 := HS.out.g1
    go_wp2_with fail
    refine (agive_any M l a la c lc _ hN HRC.out HRL.out HW.out (by omega)).mono ?_
    rintro e w2 hp
    have hb2 := hp.1
    rcases hp.2 with ⟨h1, rfl⟩ | ⟨h1, h2, rfl⟩ | ⟨h1, h2, v2, rfl, hn2⟩
    · have HX := Lib.hid h1
      clear hp h1
      have HS := Lib.hid (HS.out.later hb2)
      have HRC := Lib.hid (HRC.out.keep hb2)
      have HRD := Lib.hid (HRD.out.keep hb2)
      have HRL := Lib.hid (HRL.out.keep hb2)
      clear hb2 m0 m1 s0 s1 s2 r0 r1 f0 f1 t0 t1 g0 g1
      have m0 := HS.out.m0
      have m1 := HS.out.m1
      have s0 := HS.out.s0
      have s1 := HS.out.s1
      have s2 := HS.out.s2
      have r0 := HS.out.r0
      have r1 := HS.out.r1
      have f0 := HS.out.f0
      have f1 := HS.out.f1
      have t0 := HS.out.t0
      have t1 := HS.out.t1
      have g0 := HS.out.g0
      have g1 := HS.out.g1
      go_wp2_with fail
      have HS := Lib.hid (HS.out.put (.int .i64 0) (.slice none 0 0))
      have HRC := Lib.hid ((HRC.out.cell_ne T 0 (.int .i64 0) HAC.out).cell_ne T 1 (.slice none 0 0) HAC.out)
      have HRD := Lib.hid ((HRD.out.cell_ne T 0 (.int .i64 0) HAD.out).cell_ne T 1 (.slice none 0 0) HAD.out)
      have HRL := Lib.hid ((HRL.out.cell_ne T 0 (.int .i64 0) HAL.out).cell_ne T 1 (.slice none 0 0) HAL.out)
      generalize World.setCell (World.setCell _ ⟨T, 0, none⟩ (.int .i64 0)) ⟨T, 1, none⟩ (.slice none 0 0) = W5 at *
      clear m0 m1 s0 s1 s2 r0 r1 f0 f1 t0 t1 g0 g1
      have m0 := HS.out.m0
      have m1 := HS.out.m1
      have s0 := HS.out.s0
      have s1 := HS.out.s1
      have s2 := HS.out.s2
      have r0 := HS.out.r0
      have r1 := HS.out.r1
      have f0 := HS.out.f0
      have f1 := HS.out.f1
      have t0 := HS.out.t0
      have t1 := HS.out.t1
      have g0 := HS.out.g0
      have g1 := HS.out.g1
      refine (qgive_any M l a2 la c2 lc _ HRD.out hN HRL.out HW.out).mono ?_
      rintro e w3 hp
      have hb3 := hp.1
      rcases hp.2 with ⟨h1, rfl⟩ | ⟨h1, _, _⟩ | ⟨h1, _⟩
      · clear hp
        have HS := Lib.hid (HS.out.later hb3)
        have HRC := Lib.hid (HRC.out.keep hb3)
        have HRD := Lib.hid (HRD.out.keep hb3)
        have HRL := Lib.hid (HRL.out.keep hb3)
        clear hb3 m0 m1 s0 s1 s2 r0 r1 f0 f1 t0 t1 g0 g1
        have m0 := HS.out.m0
        have m1 := HS.out.m1
        have s0 := HS.out.s0
        have s1 := HS.out.s1
        have s2 := HS.out.s2
        have r0 := HS.out.r0
        have r1 := HS.out.r1
        have f0 := HS.out.f0
        have f1 := HS.out.f1
        have t0 := HS.out.t0
        have t1 := HS.out.t1
        have g0 := HS.out.g0
        have g1 := HS.out.g1
        go_wp2_with fail
        refine (same_is [] [] none none 0 0 true _ rfl ⟨by simp, .inl rfl⟩ ⟨by simp, .inl rfl⟩).mono ?_
        rintro e w5 ⟨rfl, hb5⟩
        have HS := Lib.hid (HS.out.later hb5)
        have HRC := Lib.hid (HRC.out.keep hb5)
        have HRD := Lib.hid (HRD.out.keep hb5)
        have HRL := Lib.hid (HRL.out.keep hb5)
        clear hb5 m0 m1 s0 s1 s2 r0 r1 f0 f1 t0 t1 g0 g1
        have m0 := HS.out.m0
        have m1 := HS.out.m1
        have s0 := HS.out.s0
        have s1 := HS.out.s1
        have s2 := HS.out.s2
        have r0 := HS.out.r0
        have r1 := HS.out.r1
        have f0 := HS.out.f0
        have f1 := HS.out.f1
        have t0 := HS.out.t0
        have t1 := HS.out.t1
        have g0 := HS.out.g0
        have g1 := HS.out.g1
        go_wp2_with fail
        refine bodyPost_ret (v := .tuple #[.agg #[.int .i64 M.length, .slice a (freeR M).length c], .slice a2 M.length c2, .bool true]) ?_ rfl (step_same HS.out.B HRC.out HRD.out HLC.out HLD.out)
        simp [results, Try.results48, go_sem, r0, r1, f0, f1]
      · exact absurd h1 (by rw [HX.out]; simp)
      · exact absurd h1 (by rw [HX.out]; simp)
    · have HX := Lib.hid h1
      have HY := Lib.hid h2
      clear hp h1 h2
      have HS := Lib.hid (HS.out.later hb2)
      have HRC := Lib.hid (HRC.out.keep hb2)
      have HRD := Lib.hid (HRD.out.keep hb2)
      have HRL := Lib.hid (HRL.out.keep hb2)
      clear hb2 m0 m1 s0 s1 s2 r0 r1 f0 f1 t0 t1 g0 g1
      have m0 := HS.out.m0
      have m1 := HS.out.m1
      have s0 := HS.out.s0
      have s1 := HS.out.s1
      have s2 := HS.out.s2
      have r0 := HS.out.r0
      have r1 := HS.out.r1
      have f0 := HS.out.f0
      have f1 := HS.out.f1
      have t0 := HS.out.t0
      have t1 := HS.out.t1
      have g0 := HS.out.g0
      have g1 := HS.out.g1
      go_wp2_with fail
      have HS := Lib.hid (HS.out.put (.int .i64 0) (.slice none 0 0))
      have HRC := Lib.hid ((HRC.out.cell_ne T 0 (.int .i64 0) HAC.out).cell_ne T 1 (.slice none 0 0) HAC.out)
      have HRD := Lib.hid ((HRD.out.cell_ne T 0 (.int .i64 0) HAD.out).cell_ne T 1 (.slice none 0 0) HAD.out)
      have HRL := Lib.hid ((HRL.out.cell_ne T 0 (.int .i64 0) HAL.out).cell_ne T 1 (.slice none 0 0) HAL.out)
      generalize World.setCell (World.setCell _ ⟨T, 0, none⟩ (.int .i64 0)) ⟨T, 1, none⟩ (.slice none 0 0) = W5 at *
      clear m0 m1 s0 s1 s2 r0 r1 f0 f1 t0 t1 g0 g1
      have m0 := HS.out.m0
      have m1 := HS.out.m1
      have s0 := HS.out.s0
      have s1 := HS.out.s1
      have s2 := HS.out.s2
      have r0 := HS.out.r0
      have r1 := HS.out.r1
      have f0 := HS.out.f0
      have f1 := HS.out.f1
      have t0 := HS.out.t0
      have t1 := HS.out.t1
      have g0 := HS.out.g0
      have g1 := HS.out.g1
      refine (qgive_any M l a2 la c2 lc _ HRD.out hN HRL.out HW.out).mono ?_
      rintro e w3 hp
      have hb3 := hp.1
      rcases hp.2 with ⟨h1, _⟩ | ⟨h1, _, rfl⟩ | ⟨_, h1, _⟩
      · exact absurd h1 (by rw [HX.out]; simp)
      · clear hp
        have HS := Lib.hid (HS.out.later hb3)
        have HRC := Lib.hid (HRC.out.keep hb3)
        have HRD := Lib.hid (HRD.out.keep hb3)
        have HRL := Lib.hid (HRL.out.keep hb3)
        clear hb3 m0 m1 s0 s1 s2 r0 r1 f0 f1 t0 t1 g0 g1
        have m0 := HS.out.m0
        have m1 := HS.out.m1
        have s0 := HS.out.s0
        have s1 := HS.out.s1
        have s2 := HS.out.s2
        have r0 := HS.out.r0
        have r1 := HS.out.r1
        have f0 := HS.out.f0
        have f1 := HS.out.f1
        have t0 := HS.out.t0
        have t1 := HS.out.t1
        have g0 := HS.out.g0
        have g1 := HS.out.g1
        go_wp2_with fail
        refine (same_is [] [] none none 0 0 true _ rfl ⟨by simp, .inl rfl⟩ ⟨by simp, .inl rfl⟩).mono ?_
        rintro e w5 ⟨rfl, hb5⟩
        have HS := Lib.hid (HS.out.later hb5)
        have HRC := Lib.hid (HRC.out.keep hb5)
        have HRD := Lib.hid (HRD.out.keep hb5)
        have HRL := Lib.hid (HRL.out.keep hb5)
        clear hb5 m0 m1 s0 s1 s2 r0 r1 f0 f1 t0 t1 g0 g1
        have m0 := HS.out.m0
        have m1 := HS.out.m1
        have s0 := HS.out.s0
        have s1 := HS.out.s1
        have s2 := HS.out.s2
        have r0 := HS.out.r0
        have r1 := HS.out.r1
        have f0 := HS.out.f0
        have f1 := HS.out.f1
        have t0 := HS.out.t0
        have t1 := HS.out.t1
        have g0 := HS.out.g0
        have g1 := HS.out.g1
        go_wp2_with fail
        refine bodyPost_ret (v := .tuple #[.agg #[.int .i64 M.length, .slice a (freeR M).length c], .slice a2 M.length c2, .bool true]) ?_ rfl (step_same HS.out.B HRC.out HRD.out HLC.out HLD.out)
        simp [results, Try.results48, go_sem, r0, r1, f0, f1]
      · exact absurd h1 HY.out
    · have HX := Lib.hid h1
      have HY := Lib.hid h2
      obtain ⟨a', c', rfl, hr', hfr'⟩ := hn2
      have HF1 := Lib.hid (hfr'.mono (B' := w.heap.size + 3) (by have := HS.out.T3; have := HS.out.lt; omega))
      have hlen := chgM_length M l false
      have HL := Lib.hid hlen
      generalize hM : chgM M l false = M' at *
      have HM := Lib.hid hM
      have HAC' := Lib.hid (hfr'.away HAC.out HS.out.lt)
      have HRC' := Lib.hid hr'
      clear hp h1 h2 hr' hfr' hM hlen
      have HS := Lib.hid (HS.out.later hb2)
      have HRC := Lib.hid (HRC.out.keep hb2)
      have HRD := Lib.hid (HRD.out.keep hb2)
      have HRL := Lib.hid (HRL.out.keep hb2)
      clear hb2 m0 m1 s0 s1 s2 r0 r1 f0 f1 t0 t1 g0 g1
      have m0 := HS.out.m0
      have m1 := HS.out.m1
      have s0 := HS.out.s0
      have s1 := HS.out.s1
      have s2 := HS.out.s2
      have r0 := HS.out.r0
      have r1 := HS.out.r1
      have f0 := HS.out.f0
      have f1 := HS.out.f1
      have t0 := HS.out.t0
      have t1 := HS.out.t1
      have g0 := HS.out.g0
      have g1 := HS.out.g1
      go_wp2_with fail
      have HRC' := Lib.hid ((HRC'.out.cell_ne T 0 (.int .i64 M.length) HAC'.out).cell_ne T 1 (.slice a' (freeR M').length c') HAC'.out)
      have HS := Lib.hid (HS.out.put (.int .i64 M.length) (.slice a' (freeR M').length c'))
      have HRC := Lib.hid ((HRC.out.cell_ne T 0 (.int .i64 M.length) HAC.out).cell_ne T 1 (.slice a' (freeR M').length c') HAC.out)
      have HRD := Lib.hid ((HRD.out.cell_ne T 0 (.int .i64 M.length) HAD.out).cell_ne T 1 (.slice a' (freeR M').length c') HAD.out)
      have HRL := Lib.hid ((HRL.out.cell_ne T 0 (.int .i64 M.length) HAL.out).cell_ne T 1 (.slice a' (freeR M').length c') HAL.out)
      generalize World.setCell (World.setCell _ ⟨T, 0, none⟩ (.int .i64 M.length)) ⟨T, 1, none⟩ (.slice a' (freeR M').length c') = W5 at *
      clear m0 m1 s0 s1 s2 r0 r1 f0 f1 t0 t1 g0 g1
      have m0 := HS.out.m0
      have m1 := HS.out.m1
      have s0 := HS.out.s0
      have s1 := HS.out.s1
      have s2 := HS.out.s2
      have r0 := HS.out.r0
      have r1 := HS.out.r1
      have f0 := HS.out.f0
      have f1 := HS.out.f1
      have t0 := HS.out.t0
      have t1 := HS.out.t1
      have g0 := HS.out.g0
      have g1 := HS.out.g1
      refine (qgive_any M l a2 la c2 lc _ HRD.out hN HRL.out HW.out).mono ?_
      rintro e w3 hp
      have hb3 := hp.1
      rcases hp.2 with ⟨h1, _⟩ | ⟨_, h1, _⟩ | ⟨_, _, v3, rfl, ho3⟩
      · exact absurd h1 (by rw [HX.out]; simp)
      · exact absurd HY.out h1
      · rw [HM.out] at ho3
        obtain ⟨b', d', rfl, hrd'⟩ := ho3.rd (by rw [HL.out]; exact hN)
        rw [HL.out] at ho3 ⊢
        have HF2 : Hid (Fresh (M = []) (M' = []) (w.heap.size + 3) a2 b') := Lib.hid (.inr (.inr fun b o e => by have := (ho3.lt b (by rw [e]; rfl)).1; have := HS.out.T3; have := HS.out.lt; omega))
        have HRC' := Lib.hid (HRC'.out.keep hb3)
        have HRD' := Lib.hid hrd'
        clear hp ho3 hrd'
        have HS := Lib.hid (HS.out.later hb3)
        have HRC := Lib.hid (HRC.out.keep hb3)
        have HRD := Lib.hid (HRD.out.keep hb3)
        have HRL := Lib.hid (HRL.out.keep hb3)
        clear hb3 m0 m1 s0 s1 s2 r0 r1 f0 f1 t0 t1 g0 g1
        have m0 := HS.out.m0
        have m1 := HS.out.m1
        have s0 := HS.out.s0
        have s1 := HS.out.s1
        have s2 := HS.out.s2
        have r0 := HS.out.r0
        have r1 := HS.out.r1
        have f0 := HS.out.f0
        have f1 := HS.out.f1
        have t0 := HS.out.t0
        have t1 := HS.out.t1
        have g0 := HS.out.g0
        have g1 := HS.out.g1
        go_wp2_with fail
        refine (same_is [] [] none none 0 0 true _ rfl ⟨by simp, .inl rfl⟩ ⟨by simp, .inl rfl⟩).mono ?_
        rintro e w5 ⟨rfl, hb5⟩
        have HRC' := Lib.hid (HRC'.out.keep hb5)
        have HRD' := Lib.hid (HRD'.out.keep hb5)
        have HS := Lib.hid (HS.out.later hb5)
        have HRC := Lib.hid (HRC.out.keep hb5)
        have HRD := Lib.hid (HRD.out.keep hb5)
        have HRL := Lib.hid (HRL.out.keep hb5)
        clear hb5 m0 m1 s0 s1 s2 r0 r1 f0 f1 t0 t1 g0 g1
        have m0 := HS.out.m0
        have m1 := HS.out.m1
        have s0 := HS.out.s0
        have s1 := HS.out.s1
        have s2 := HS.out.s2
        have r0 := HS.out.r0
        have r1 := HS.out.r1
        have f0 := HS.out.f0
        have f1 := HS.out.f1
        have t0 := HS.out.t0
        have t1 := HS.out.t1
        have g0 := HS.out.g0
        have g1 := HS.out.g1
        go_wp2_with fail
        refine bodyPost_ret (v := .tuple #[.agg #[.int .i64 M.length, .slice a' (freeR M').length c'], .slice b' M.length d', .bool true]) ?_ rfl (step_new HL.out HS.out.B HRC'.out HRD'.out HLC.out HLD.out HF1.out HF2.out)
        simp [results, Try.results48, go_sem, r0, r1, f0, f1]
end Go.Proofs.Ytolhajkbamhdgaa
