/-
  tegularef16: Live, Valid.
  Conditions: as each theorem says.
-/
import Derived.Test.YtbiecglooagmmaaScO
namespace Go.Proofs.Ytbiecglooagmmaa
set_option linter.unusedSimpArgs false
set_option linter.unusedVariables false
set_option maxRecDepth 100000
open Go.RowKit

def liveS (L : List Bd) : Int := (L.map (·.live)).sum
theorem liveS_take (L : List Bd) (k : Nat) (h : k < L.length) : liveS (L.take (k + 1)) = liveS (L.take k) + L[k].live := by
  unfold liveS
  rw [List.take_succ_eq_append_getElem h, List.map_append, List.sum_append, List.map_cons, List.map_nil, List.sum_cons, List.sum_nil]
  omega
theorem liveS_bd (L : List Bd) (h : ∀ x ∈ L, 0 ≤ x.live ∧ x.live ≤ 65536) : 0 ≤ liveS L ∧ liveS L ≤ 65536 * L.length := by
  induction L with
  | nil => simp [liveS]
  | cons x r ih =>
    have h1 := ih fun y hy => h y (by simp [hy])
    have h2 := h x (by simp)
    unfold liveS at *
    rw [List.map_cons, List.sum_cons, List.length_cons]
    push_cast
    omega
set_option maxHeartbeats 4000000 in
theorem rlive_any (L : List Bd) (g c : Nat) (w : World) (hl : L.length ≤ 64) (ha : BdR w g L) (hx : ∀ x ∈ L, 0 ≤ x.live ∧ x.live ≤ 65536) :
    Calls Try.prog 17 #[.slice (some ⟨g, 0, none⟩) L.length c] w fun e w' => e = .returned (.int .i64 (liveS L)) ∧ w = w' := by
  have HA := Lib.hid ha
  have HX := Lib.hid hx
  clear ha hx
  go_enter Try.func17, Try.ntmps17
  go_wp2_with fail
  go_loopw [3, 4] (fun n i wr => ∃ k : Nat, k ≤ L.length ∧ i = .int .i64 k ∧ n = .int .i64 (liveS (L.take k)) ∧ w = wr) (fun _ i _ => L.length - (intOf i).toNat)
  case atStart => exact ⟨0, by omega, rfl, rfl, rfl⟩
  case round =>
    obtain ⟨k, hk, rfl, rfl, rfl⟩ := hrel
    by_cases hlt : k < L.length
    · have b1 := (HA.out.at_ k _ (List.getElem?_eq_getElem hlt)).c1
      have HT := Lib.hid (liveS_take L k hlt)
      have hx1 := HX.out _ (List.getElem_mem hlt)
      have hb := liveS_bd (L.take k) (fun x hx => HX.out x (List.mem_of_mem_take hx))
      have hlt2 : (L.take k).length ≤ 64 := by rw [List.length_take]; omega
      generalize L[k] = x at *
      obtain ⟨xu, xl, xa, xw⟩ := x
      simp only at b1 hx1 HT
      generalize liveS (L.take k) = q at *
      have hk1 : (k : Int) < L.length := by omega
      have hk0 : (0 : Int) ≤ k := by omega
      have hq0 := hb.1
      have hq1 : q ≤ 65536 * 64 := by omega
      have hx0 := hx1.1
      have hx2 := hx1.2
      clear hb hx1 hlt2
      go_wp2_with fail
      go_roundw
      case rel => exact ⟨k + 1, by omega, by go_num, by rw [HT.out], by first | rfl | trivial⟩
      case measure => simp [intOf]; omega
    · obtain rfl : k = L.length := by omega
      rw [List.take_length]
      go_wp2_with fail
      go_ret
      exact ⟨rfl, rfl⟩
set_option maxHeartbeats 4000000 in
theorem rvalid16_yes (L : List Bd) (sz : Nat) (g c : Nat) (w : World) (h1 : 1 ≤ L.length) (hl : L.length ≤ 64) (hs : 1 ≤ sz) (ha : BdR w g L) (hx : ∀ x ∈ L, 0 ≤ x.live ∧ x.live ≤ x.used ∧ x.used ≤ sz) :
    Calls Try.prog 18 #[.slice (some ⟨g, 0, none⟩) L.length c, .int .i64 sz] w fun e w' => e = .returned (.bool true) ∧ Below w.heap.size w w' := by
  have HA := Lib.hid ha
  have HX := Lib.hid hx
  have hs1 : ¬ (sz : Int) < 1 := by omega
  have hl1 : ¬ (L.length : Int) < 1 := by omega
  have hl2 : ¬ (64 : Int) < L.length := by omega
  clear ha hx
  go_enter Try.func18, Try.ntmps18
  go_wp2_with fail
  go_loopw [5] (fun i wr => ∃ k : Nat, k ≤ L.length ∧ i = .int .i64 k ∧ Below w.heap.size w wr) (fun i _ => L.length - (intOf i).toNat)
  case atStart => exact ⟨0, by omega, rfl, Below.refl _ _⟩
  case round =>
    obtain ⟨k, hk, rfl, hBk⟩ := hrel
    by_cases hlt : k < L.length
    · have hat := (HA.out.keep hBk).at_ k _ (List.getElem?_eq_getElem hlt)
      have hx1 := HX.out _ (List.getElem_mem hlt)
      have HBk := Lib.hid hBk
      generalize L[k] = x at *
      obtain ⟨xu, xl, xa, xw⟩ := x
      have b0 := hat.c0
      have b1 := hat.c1
      simp only at b0 b1 hx1
      have hk1 : (k : Int) < L.length := by omega
      have hk0 : (0 : Int) ≤ k := by omega
      have n1 : decide (xl < 0) = false := by simp; omega
      have n2 : decide (xu < xl) = false := by simp; omega
      have n3 : decide ((sz : Int) < xu) = false := by simp; omega
      clear hat hBk hx1
      go_wp2_with fail
      refine wp_region_next (by kernel_rfl) (by kernel_rfl) ?_
      repeat (go_big_quiet_step (fail))
      refine wpQuiet_nil ?_
      intro _ hw'
      obtain ⟨nq, hw''⟩ := hw'
      subst hw''
      go_wp2_with fail
      go_roundw
      case rel => exact ⟨k + 1, by omega, by go_num, HBk.out.onNext _⟩
      case measure => simp [intOf]; omega
    · obtain rfl : k = L.length := by omega
      go_wp2_with fail
      go_ret
      exact ⟨rfl, hBk⟩
end Go.Proofs.Ytbiecglooagmmaa
