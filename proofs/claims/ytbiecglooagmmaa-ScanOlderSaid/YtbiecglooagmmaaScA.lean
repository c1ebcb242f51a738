/-
  The sums of bytes, both sides: a step, and Update.
  Conditions: as each theorem says.
-/
import Derived.Test.YtbiecglooagmmaaSA
import Derived.Test.YtbiecglooagmmaaRows
import Derived.Lib.Hide
import Derived.OpenShut
namespace Go.Proofs.Ytbiecglooagmmaa
set_option linter.unusedSimpArgs false
set_option linter.unusedVariables false
set_option maxRecDepth 100000
open Go.RowKit

theorem ret_u64 {a b : Int} (h : a = b) : Ending.returned (Value.int .u64 a) = .returned (.int .u64 b) := by rw [h]
def stepI (x : Int) : Int := if bits .and .u64 x 1 == 1 then bits .xor .u64 (x / 2) 14514072000185962306 else x / 2
theorem stepI_range (x : Int) (h0 : 0 ≤ x) (h1 : x ≤ 18446744073709551615) : 0 ≤ stepI x ∧ stepI x ≤ 18446744073709551615 := by
  unfold stepI
  split
  · exact bounds_u64 (wf_bits _ _ _ _)
  · omega

set_option maxHeartbeats 400000 in
theorem step_any (x : Int) (w : World) (h0 : 0 ≤ x) (h1 : x ≤ 18446744073709551615) : Calls Try.prog 54 #[.int .u64 x] w fun e w' => e = .returned (.int .u64 (stepI x)) ∧ w = w' := by
  go_enter Try.func54, Try.ntmps54
  go_wp2
  · rename_i h
    go_ret
    exact ⟨ret_u64 (by unfold stepI; rw [if_pos h]), rfl⟩
  · rename_i h
    go_ret
    exact ⟨ret_u64 (by unfold stepI; rw [if_neg (by simp [h])]), rfl⟩

def stepN : Nat → Int → Int
  | 0, x => x
  | n + 1, x => stepI (stepN n x)
theorem stepN_range (n : Nat) (x : Int) (h0 : 0 ≤ x ∧ x ≤ 18446744073709551615) : 0 ≤ stepN n x ∧ stepN n x ≤ 18446744073709551615 := by
  induction n with
  | zero => exact h0
  | succ n ih => exact stepI_range _ ih.1 ih.2
/-- A byte more. -/
def crcB (x c : Int) : Int := stepN 8 (bits .xor .u64 x c)
def crcU (l : List UInt8) : Int := l.foldl (fun x (c : UInt8) => crcB x (c.toNat : Int)) (bits .xor .u64 IntKind.u64.max 0)
theorem crcU_take (l : List UInt8) (k : Nat) (h : k < l.length) : crcU (l.take (k + 1)) = crcB (crcU (l.take k)) (l[k].toNat : Int) := by
  unfold crcU; rw [List.take_succ_eq_append_getElem h, List.foldl_append]; rfl
theorem crcU_range (l : List UInt8) : 0 ≤ crcU l ∧ crcU l ≤ 18446744073709551615 := by
  have key : ∀ (l : List UInt8) (x : Int), 0 ≤ x ∧ x ≤ 18446744073709551615 → 0 ≤ l.foldl (fun x (c : UInt8) => crcB x (c.toNat : Int)) x ∧ l.foldl (fun x (c : UInt8) => crcB x (c.toNat : Int)) x ≤ 18446744073709551615 := by
    intro l
    induction l with
    | nil => intro x h; exact h
    | cons c l ih => intro x _; exact ih _ (stepN_range _ _ (bounds_u64 (wf_bits _ _ _ _)))
  exact key l _ (bounds_u64 (wf_bits _ _ _ _))
def sumL (l : List UInt8) : Int := bits .xor .u64 IntKind.u64.max (crcU l)
def crcN (l : List UInt8) : Nat := (sumL l).toNat
theorem sumL_eq (l : List UInt8) : sumL l = (crcN l : Nat) ∧ crcN l < 18446744073709551616 := by
  have := bounds_u64 (wf_bits .xor .u64 IntKind.u64.max (crcU l))
  unfold crcN sumL
  omega

set_option maxHeartbeats 1000000 in
theorem update_any (l : List UInt8) (a : Option Addr) (c : Nat) (w : World) (hr : RdY w a l) : Calls Try.prog 42 #[.int .u64 0, .slice a l.length c] w fun e w' => e = .returned (.int .u64 (sumL l)) ∧ w = w' := by
  have hlen := hr.1
  have hsg : IntKind.u64.signed = false := rfl
  go_enter Try.func42, Try.ntmps42
  go_wp2_with fail
  go_loopw [5, 12] (fun x i wr => ∃ k : Nat, k ≤ l.length ∧ i = .int .i64 k ∧ x = .int .u64 (crcU (l.take k)) ∧ w = wr) (fun _ i _ => l.length - (intOf i).toNat)
  case atStart => exact ⟨0, Nat.zero_le _, rfl, rfl, rfl⟩
  case round =>
    obtain ⟨k, hk, rfl, rfl, rfl⟩ := hrel
    have hcr := crcU_range (l.take k)
    by_cases hlt : k < l.length
    · obtain ⟨b, o, rfl, hat⟩ := hr.at (by omega)
      have h1 := hat k _ (List.getElem?_eq_getElem hlt)
      have HT := Lib.hid (crcU_take l k hlt)
      obtain ⟨y, hy, hb⟩ : ∃ y : Int, (l[k].toNat : Int) = y ∧ 0 ≤ y ∧ y ≤ 255 := ⟨_, rfl, by have := l[k].toNat_lt; omega⟩
      simp only [byV] at h1
      rw [hy] at h1 HT
      generalize crcU (l.take k) = z at *
      clear hat hr hy
      go_wp2_with fail
      go_loopw [5, 20] (fun x i wr => ∃ n : Nat, n ≤ 8 ∧ i = .int .i64 n ∧ x = .int .u64 (stepN n (bits .xor .u64 z y)) ∧ w = wr) (fun _ i _ => 8 - (intOf i).toNat)
      case atStart => exact ⟨0, by omega, rfl, rfl, rfl⟩
      case round =>
        obtain ⟨n, hn, rfl, rfl, rfl⟩ := hrel
        have hcn := stepN_range n (bits .xor .u64 z y) (bounds_u64 (wf_bits _ _ _ _))
        by_cases hn8 : n < 8
        · have HN : Hid (stepI (stepN n (bits .xor .u64 z y)) = stepN (n + 1) (bits .xor .u64 z y)) := Lib.hid rfl
          generalize stepN n (bits .xor .u64 z y) = q at *
          go_wp2_with fail
          refine (step_any q _ hcn.1 hcn.2).mono ?_
          rintro e w1 ⟨rfl, rfl⟩
          go_wp2_with fail
          go_roundw
          case rel => exact ⟨n + 1, by omega, by go_num, by rw [HN.out], by first | trivial | rfl⟩
          case measure => simp [intOf]; omega
        · obtain rfl : n = 8 := by omega
          go_wp2_with fail
          go_roundw
          case rel => exact ⟨k + 1, by omega, by go_num, by rw [HT.out]; rfl, by first | trivial | rfl⟩
          case measure => simp [intOf]; omega
    · go_wp2_with fail
      go_ret
      exact ⟨ret_u64 (by rw [List.take_of_length_le (by omega)]; rfl), rfl⟩

set_option maxHeartbeats 400000 in
theorem sum_any (l : List UInt8) (a : Option Addr) (c : Nat) (w : World) (hr : RdY w a l) : Calls Try.prog 35 #[.slice a l.length c] w fun e w' => e = .returned (.int .u64 (sumL l)) ∧ w = w' := by
  go_enter Try.func35, Try.ntmps35
  go_wp2_with fail
  refine (update_any l _ _ _ hr).mono ?_
  rintro e w1 ⟨rfl, rfl⟩
  go_wp2_with fail
  go_ret
  exact ⟨rfl, rfl⟩

set_option maxHeartbeats 400000 in
theorem steps_any (x : Int) (w : World) (h0 : 0 ≤ x) (h1 : x ≤ 18446744073709551615) : Calls Try.prog 60 #[.int .u64 x, .int .i64 8] w fun e w' => e = .returned (.int .u64 (stepN 8 x)) ∧ w = w' := by
  go_enter Try.func60, Try.ntmps60
  go_wp2_with fail
  go_loopw [0, 5] (fun v i wr => ∃ n : Nat, n ≤ 8 ∧ i = .int .i64 n ∧ v = .int .u64 (stepN n x) ∧ w = wr) (fun _ i _ => 8 - (intOf i).toNat)
  case atStart => exact ⟨0, by omega, rfl, rfl, rfl⟩
  case round =>
    obtain ⟨n, hn, rfl, rfl, rfl⟩ := hrel
    have hcn := stepN_range n x ⟨h0, h1⟩
    by_cases hn8 : n < 8
    · have HN : Hid (stepI (stepN n x) = stepN (n + 1) x) := Lib.hid rfl
      generalize stepN n x = q at *
      go_wp2_with fail
      · rename_i h
        have HQ : Hid (bits .xor .u64 (q / 2) 14514072000185962306 = stepI q) := Lib.hid (by unfold stepI; rw [if_pos h])
        go_roundw
        case rel => exact ⟨n + 1, by omega, by go_num, by rw [← HN.out, ← HQ.out], by first | trivial | rfl⟩
        case measure => simp [intOf]; omega
      · rename_i h
        have HQ : Hid (q / 2 = stepI q) := Lib.hid (by unfold stepI; rw [if_neg (by simp [h])])
        go_roundw
        case rel => exact ⟨n + 1, by omega, by go_num, by rw [← HN.out, ← HQ.out], by first | trivial | rfl⟩
        case measure => simp [intOf]; omega
    · obtain rfl : n = 8 := by omega
      go_wp2_with fail
      go_ret
      exact ⟨rfl, rfl⟩
set_option maxHeartbeats 1000000 in
theorem rupdate_any (l : List UInt8) (a : Option Addr) (c : Nat) (w : World) (hr : RdY w a l) : Calls Try.prog 53 #[.int .u64 0, .slice a l.length c] w fun e w' => e = .returned (.int .u64 (sumL l)) ∧ w = w' := by
  have hlen := hr.1
  have hsg : IntKind.u64.signed = false := rfl
  go_enter Try.func53, Try.ntmps53
  go_wp2_with fail
  go_loopw [5, 6] (fun x i wr => ∃ k : Nat, k ≤ l.length ∧ i = .int .i64 k ∧ x = .int .u64 (crcU (l.take k)) ∧ w = wr) (fun _ i _ => l.length - (intOf i).toNat)
  case atStart => exact ⟨0, Nat.zero_le _, rfl, rfl, rfl⟩
  case round =>
    obtain ⟨k, hk, rfl, rfl, rfl⟩ := hrel
    have hcr := crcU_range (l.take k)
    by_cases hlt : k < l.length
    · obtain ⟨b, o, rfl, hat⟩ := hr.at (by omega)
      have h1 := hat k _ (List.getElem?_eq_getElem hlt)
      have HT := Lib.hid (crcU_take l k hlt)
      obtain ⟨y, hy, hb⟩ : ∃ y : Int, (l[k].toNat : Int) = y ∧ 0 ≤ y ∧ y ≤ 255 := ⟨_, rfl, by have := l[k].toNat_lt; omega⟩
      simp only [byV] at h1
      rw [hy] at h1 HT
      generalize crcU (l.take k) = z at *
      clear hat hr hy
      have hbz := bounds_u64 (wf_bits .xor .u64 z y)
      go_wp2_with fail
      refine (steps_any (bits .xor .u64 z y) _ hbz.1 hbz.2).mono ?_
      rintro e w1 ⟨rfl, rfl⟩
      go_wp2_with fail
      go_roundw
      case rel => exact ⟨k + 1, by omega, by go_num, by rw [HT.out]; rfl, by first | trivial | rfl⟩
      case measure => simp [intOf]; omega
    · go_wp2_with fail
      go_ret
      exact ⟨ret_u64 (by rw [List.take_of_length_le (by omega)]; rfl), rfl⟩
set_option maxHeartbeats 400000 in
theorem rsum_any (l : List UInt8) (a : Option Addr) (c : Nat) (w : World) (hr : RdY w a l) : Calls Try.prog 40 #[.slice a l.length c] w fun e w' => e = .returned (.int .u64 (sumL l)) ∧ w = w' := by
  go_enter Try.func40, Try.ntmps40
  go_wp2_with fail
  refine (rupdate_any l _ _ _ hr).mono ?_
  rintro e w1 ⟨rfl, rfl⟩
  go_wp2_with fail
  go_ret
  exact ⟨rfl, rfl⟩
end Go.Proofs.Ytbiecglooagmmaa
