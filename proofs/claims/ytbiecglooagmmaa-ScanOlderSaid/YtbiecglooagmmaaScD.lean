/-
  Geometries, both sides.
  Conditions: as each theorem says.
-/
import Derived.Test.YtbiecglooagmmaaScC
namespace Go.Proofs.Ytbiecglooagmmaa
set_option linter.unusedSimpArgs false
set_option linter.unusedVariables false
set_option maxRecDepth 100000
open Go.RowKit

structure Geo where
  r : Int
  b : Int
  t : Int
  s : Int
  o : Int
abbrev Geo.v (g : Geo) : Value := .agg #[.int .i64 g.r, .int .i64 g.b, .int .i64 g.t, .int .i64 g.s, .int .i64 g.o]
def geoB (r b t s o : Int) : Bool := decide (0 ≤ r ∧ r ≤ 16384) && decide (1 ≤ b ∧ b ≤ 64) && decide (1 ≤ t ∧ t ≤ 16) && decide (1 ≤ s ∧ s ≤ 64) && decide (0 ≤ o ∧ o ≤ 3)
def Geo.ok (g : Geo) : Bool := geoB g.r g.b g.t g.s g.o
def Geo.size (g : Geo) : Int := if g.ok then g.t * g.s else 0
theorem Geo.bd {g : Geo} (h : g.ok = true) : 0 ≤ g.r ∧ g.r ≤ 16384 ∧ 1 ≤ g.b ∧ g.b ≤ 64 ∧ 1 ≤ g.size ∧ g.size ≤ 1024 ∧ g.size = g.t * g.s ∧ g.b ≤ g.b * g.size ∧ g.b * g.size ≤ 65536 ∧ 0 ≤ g.t * g.s := by
  have hs : g.size = g.t * g.s := by unfold Geo.size; rw [if_pos h]
  unfold Geo.ok geoB at h
  simp only [Bool.and_eq_true, decide_eq_true_eq] at h
  obtain ⟨⟨⟨⟨h1, h2⟩, h3⟩, h4⟩, h5⟩ := h
  have a1 : g.t * g.s ≤ 16 * g.s := Int.mul_le_mul_of_nonneg_right h3.2 (by omega)
  have a2 : 1 * g.s ≤ g.t * g.s := Int.mul_le_mul_of_nonneg_right h3.1 (by omega)
  have a3 : g.b * g.size ≤ 64 * g.size := Int.mul_le_mul_of_nonneg_right h2.2 (by omega)
  have a4 : g.b * 1 ≤ g.b * g.size := Int.mul_le_mul_of_nonneg_left (by omega) (by omega)
  omega
theorem bool_ends {r s : Bool} (h : r = s) : Ending.returned (.bool r) = .returned (.bool s) := by rw [h]
set_option maxHeartbeats 1000000 in
theorem gwithin_any (n lo hi : Int) (w : World) : Calls Try.prog 41 #[.int .i64 n, .int .i64 lo, .int .i64 hi] w fun e w' => e = .returned (.bool (decide (lo ≤ n ∧ n ≤ hi))) ∧ w = w' := by
  go_enter Try.func41, Try.ntmps41
  go_wp2
  all_goals
    go_ret
    refine ⟨bool_ends ?_, rfl⟩
    simp_all
    try first | rfl | omega
set_option maxRecDepth 100000 in
set_option maxHeartbeats 1000000 in
theorem gvalid_any (g : Geo) (w : World) : Calls Try.prog 33 #[g.v] w fun e w' => e = .returned (.bool g.ok) ∧ Below w.heap.size w w' := by
  obtain ⟨r, b, t, s, o⟩ := g
  have hbb := Lib.hid (fun C => (Below.refl w.heap.size w).onAlloc (.cells C 23))
  unfold Geo.v Geo.ok
  simp only
  go_enter Try.func33, Try.ntmps33
  go_wp2_with (go_at_call 41; refine (gwithin_any _ _ _ _).mono ?_; rintro e w1 ⟨rfl, rfl⟩)
  all_goals
    go_ret
    refine ⟨bool_ends ?_, hbb.out _⟩
    unfold geoB
    simp_all
    try first | rfl | omega
set_option maxRecDepth 100000 in
set_option maxHeartbeats 2000000 in
theorem rgvalid_any (g : Geo) (w : World) : Calls Try.prog 13 #[g.v] w fun e w' => e = .returned (.bool g.ok) ∧ Below w.heap.size w w' := by
  obtain ⟨r, b, t, s, o⟩ := g
  have hbb := Lib.hid (fun C => (Below.refl w.heap.size w).onAlloc (.cells C 23))
  unfold Geo.v Geo.ok
  simp only
  go_enter Try.func13, Try.ntmps13
  go_wp2
  all_goals
    go_ret
    refine ⟨bool_ends ?_, hbb.out _⟩
    unfold geoB
    simp_all
    try first | rfl | omega
set_option maxRecDepth 100000 in
set_option maxHeartbeats 1000000 in
theorem gsize_any (g : Geo) (w : World) : Calls Try.prog 21 #[g.v] w fun e w' => e = .returned (.int .i64 g.size) ∧ Below w.heap.size w w' := by
  have HA := Lib.hid ((Below.refl w.heap.size w).onAlloc (.cells #[.int .i64 g.r, .int .i64 g.b, .int .i64 g.t, .int .i64 g.s, .int .i64 g.o] 23))
  have c2 : (w.alloc (.cells #[.int .i64 g.r, .int .i64 g.b, .int .i64 g.t, .int .i64 g.s, .int .i64 g.o] 23)).cell? ⟨w.heap.size, 2, none⟩ = some (.int .i64 g.t) := by simp
  have c3 : (w.alloc (.cells #[.int .i64 g.r, .int .i64 g.b, .int .i64 g.t, .int .i64 g.s, .int .i64 g.o] 23)).cell? ⟨w.heap.size, 3, none⟩ = some (.int .i64 g.s) := by simp
  cases hg : g.ok
  · have h0 : Hid (g.size = 0) := Lib.hid (by unfold Geo.size; rw [hg]; rfl)
    have HV := Lib.hid (fun W => gvalid_any g W)
    rw [hg] at HV
    rw [h0.out]
    go_enter Try.func21, Try.ntmps21
    go_wp2_with fail
    refine (HV.out _).mono ?_
    rintro e w1 ⟨rfl, hb⟩
    go_wp2_with fail
    go_ret
    exact ⟨rfl, HA.out.on hb⟩
  · have h0 := Geo.bd hg
    have HS : Hid (g.size = g.t * g.s) := Lib.hid h0.2.2.2.2.2.2.1
    have hb1 : 0 ≤ g.t * g.s ∧ g.t * g.s ≤ 1024 := by omega
    have HV := Lib.hid (fun W => gvalid_any g W)
    rw [hg] at HV
    rw [HS.out]
    clear h0
    go_enter Try.func21, Try.ntmps21
    go_wp2_with fail
    refine (HV.out _).mono ?_
    rintro e w1 ⟨rfl, hb⟩
    replace c2 := hb.keep c2
    replace c3 := hb.keep c3
    have HB := Lib.hid (HA.out.on hb)
    clear hb
    have hw : IntKind.i64.wrap (g.t * g.s) = g.t * g.s := IntWalk.i64_in _ (by omega)
    go_wp2_with fail
    go_ret
    exact ⟨rfl, HB.out⟩
set_option maxRecDepth 100000 in
set_option maxHeartbeats 1000000 in
theorem rgsize_any (g : Geo) (w : World) : Calls Try.prog 14 #[g.v] w fun e w' => e = .returned (.int .i64 g.size) ∧ Below w.heap.size w w' := by
  have HA := Lib.hid ((Below.refl w.heap.size w).onAlloc (.cells #[.int .i64 g.r, .int .i64 g.b, .int .i64 g.t, .int .i64 g.s, .int .i64 g.o] 23))
  have c2 : (w.alloc (.cells #[.int .i64 g.r, .int .i64 g.b, .int .i64 g.t, .int .i64 g.s, .int .i64 g.o] 23)).cell? ⟨w.heap.size, 2, none⟩ = some (.int .i64 g.t) := by simp
  have c3 : (w.alloc (.cells #[.int .i64 g.r, .int .i64 g.b, .int .i64 g.t, .int .i64 g.s, .int .i64 g.o] 23)).cell? ⟨w.heap.size, 3, none⟩ = some (.int .i64 g.s) := by simp
  cases hg : g.ok
  · have h0 : Hid (g.size = 0) := Lib.hid (by unfold Geo.size; rw [hg]; rfl)
    have HV := Lib.hid (fun W => rgvalid_any g W)
    rw [hg] at HV
    rw [h0.out]
    go_enter Try.func14, Try.ntmps14
    go_wp2_with fail
    refine (HV.out _).mono ?_
    rintro e w1 ⟨rfl, hb⟩
    go_wp2_with fail
    go_ret
    exact ⟨rfl, HA.out.on hb⟩
  · have h0 := Geo.bd hg
    have HS : Hid (g.size = g.t * g.s) := Lib.hid h0.2.2.2.2.2.2.1
    have hb1 : 0 ≤ g.t * g.s ∧ g.t * g.s ≤ 1024 := by omega
    have HV := Lib.hid (fun W => rgvalid_any g W)
    rw [hg] at HV
    rw [HS.out]
    clear h0
    go_enter Try.func14, Try.ntmps14
    go_wp2_with fail
    refine (HV.out _).mono ?_
    rintro e w1 ⟨rfl, hb⟩
    replace c2 := hb.keep c2
    replace c3 := hb.keep c3
    have HB := Lib.hid (HA.out.on hb)
    clear hb
    have hw : IntKind.i64.wrap (g.t * g.s) = g.t * g.s := IntWalk.i64_in _ (by omega)
    go_wp2_with fail
    go_ret
    exact ⟨rfl, HB.out⟩
end Go.Proofs.Ytbiecglooagmmaa
