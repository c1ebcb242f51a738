/-
  Numbers out of bytes, both sides.
  Conditions: as each theorem says.
-/
import Derived.Test.YtbiecglooagmmaaScP
namespace Go.Proofs.Ytbiecglooagmmaa
set_option linter.unusedSimpArgs false
set_option linter.unusedVariables false
set_option maxRecDepth 100000
open Go.RowKit

set_option maxHeartbeats 1000000 in
theorem get_any (l : List UInt8) (a : Option Addr) (c : Nat) (w : World) (hr : RdY w a l) (hl : l.length ≤ 8) : Calls Try.prog 34 #[.slice a l.length c] w fun e w' => e = .returned (.int .u64 (getL l : Nat)) ∧ w = w' := by
  have hlen := hr.1
  go_enter Try.func34, Try.ntmps34
  go_wp2_with fail
  go_loopw [3, 7] (fun x i wr => ∃ (k : Nat), k ≤ l.length ∧ i = .int .i64 k ∧ x = .int .u64 (getL (l.take k) : Nat) ∧ w = wr) (fun _ i _ => l.length - (intOf i).toNat)
  case atStart => exact ⟨0, Nat.zero_le _, rfl, rfl, rfl⟩
  case round =>
    obtain ⟨k, hk, rfl, rfl, rfl⟩ := hrel
    have hn1 := getL_lt (l.take k)
    rw [List.length_take, Nat.min_eq_left (by omega)] at hn1
    have hp : (256 : Nat) ^ k ≤ 256 ^ 8 := Nat.pow_le_pow_right (by omega) (by omega)
    have hn2 : ((getL (l.take k) : Nat) : Int) ≤ 18446744073709551615 := by omega
    by_cases hlt : k < l.length
    · obtain ⟨b, o, rfl, hat⟩ := hr.at (by omega)
      have h1 := hat k _ (List.getElem?_eq_getElem hlt)
      have hy := l[k].toNat_lt
      have HT := Lib.hid (getL_take l k hlt)
      have HO := Lib.hid (or_byte _ _ k hn1 (by omega) hy)
      simp only [byV] at h1
      generalize l[k].toNat = y at *
      generalize getL (l.take k) = n at *
      have hy2 : (y : Int) ≤ 255 := by omega
      clear hat hr hn1 hp hy
      go_wp2_with fail
      go_roundw
      case rel => exact ⟨k + 1, by omega, by go_num, by rw [HT.out, ← HO.out], by first | trivial | rfl⟩
      case measure => simp [intOf]; omega
    · obtain rfl : k = l.length := by omega
      clear hn1 hp
      rw [List.take_length] at *
      go_wp2_with fail
      go_ret
      exact ⟨rfl, rfl⟩
set_option maxHeartbeats 1000000 in
theorem rget_any (l : List UInt8) (a : Option Addr) (c : Nat) (w : World) (hr : RdY w a l) (hl : l.length ≤ 8) : Calls Try.prog 30 #[.slice a l.length c] w fun e w' => e = .returned (.int .u64 (getL l : Nat)) ∧ w = w' := by
  have hlen := hr.1
  go_enter Try.func30, Try.ntmps30
  go_wp2_with fail
  go_loopw [3, 4] (fun x i wr => ∃ (k : Nat), k ≤ l.length ∧ i = .int .i64 k ∧ x = .int .u64 (getL (l.take k) : Nat) ∧ w = wr) (fun _ i _ => l.length - (intOf i).toNat)
  case atStart => exact ⟨0, Nat.zero_le _, rfl, rfl, rfl⟩
  case round =>
    obtain ⟨k, hk, rfl, rfl, rfl⟩ := hrel
    have hn1 := getL_lt (l.take k)
    rw [List.length_take, Nat.min_eq_left (by omega)] at hn1
    have hp : (256 : Nat) ^ k ≤ 256 ^ 8 := Nat.pow_le_pow_right (by omega) (by omega)
    have hn2 : ((getL (l.take k) : Nat) : Int) ≤ 18446744073709551615 := by omega
    by_cases hlt : k < l.length
    · obtain ⟨b, o, rfl, hat⟩ := hr.at (by omega)
      have h1 := hat k _ (List.getElem?_eq_getElem hlt)
      have hy := l[k].toNat_lt
      have HT := Lib.hid (getL_take l k hlt)
      have HO := Lib.hid (or_byte _ _ k hn1 (by omega) hy)
      simp only [byV] at h1
      generalize l[k].toNat = y at *
      generalize getL (l.take k) = n at *
      have hy2 : (y : Int) ≤ 255 := by omega
      clear hat hr hn1 hp hy
      go_wp2_with fail
      go_roundw
      case rel => exact ⟨k + 1, by omega, by go_num, by rw [HT.out, ← HO.out], by first | trivial | rfl⟩
      case measure => simp [intOf]; omega
    · obtain rfl : k = l.length := by omega
      clear hn1 hp
      rw [List.take_length] at *
      go_wp2_with fail
      go_ret
      exact ⟨rfl, rfl⟩
end Go.Proofs.Ytbiecglooagmmaa
