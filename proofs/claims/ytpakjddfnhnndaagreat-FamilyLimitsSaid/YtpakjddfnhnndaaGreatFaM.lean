/-
  package family: Name; tegularef36.Name.
  Conditions: as each theorem says.
-/
import Derived.Test.YtpakjddfnhnndaaGreatFaL
import Derived.Laws.IdiomStrings
namespace Go.Proofs.YtpakjddfnhnndaaGreat
set_option linter.unusedSimpArgs false
set_option linter.unusedVariables false
set_option maxRecDepth 100000
open Go.RowKit Go.Maps

theorem nameB_len {s : List UInt8} (h : nameB s = true) : 1 ≤ s.length ∧ s.length ≤ 16 := by
  unfold nameB at h
  simp only [Bool.and_eq_true, decide_eq_true_eq] at h
  exact h.2
theorem nameB_max {s : List UInt8} (h : nameB s = true) : s.length ≤ maxLen := by have := (nameB_len h).2; simp only [maxLen]; omega
theorem nameB_short {s : List UInt8} (k : Nat) (h : charsB true (s.take k) = false) : nameB s = false := by
  unfold nameB
  rw [charsB_short s k h]
  rfl
theorem charB_iff (c : UInt8) (k : Nat) : (letterB c || (decide (0 < k) && digitB c)) = true ↔ (97 ≤ (c.toNat : Int) ∧ (c.toNat : Int) ≤ 122) ∨ ((0 : Int) < k ∧ 48 ≤ (c.toNat : Int) ∧ (c.toNat : Int) ≤ 57) := by
  simp only [letterB, digitB, Bool.or_eq_true, Bool.and_eq_true, decide_eq_true_eq]
  omega
theorem charB_no (c : UInt8) (k : Nat) (h : ¬ ((97 ≤ (c.toNat : Int) ∧ (c.toNat : Int) ≤ 122) ∨ ((0 : Int) < k ∧ 48 ≤ (c.toNat : Int) ∧ (c.toNat : Int) ≤ 57))) : (letterB c || (decide (0 < k) && digitB c)) = false := by
  cases hb : (letterB c || (decide (0 < k) && digitB c))
  · rfl
  · exact absurd ((charB_iff c k).1 hb) h
set_option maxHeartbeats 4000000 in
theorem rname_any (nm : List UInt8) (w : World) (hn : nm.length ≤ maxLen) : Calls Tryz.prog 97 #[nmV nm] w fun e w' => e = .returned (.bool (nameB nm)) ∧ Below w.heap.size w w' := by
  have hsz : (ByteArray.mk nm.toArray).size = nm.length := by simp [ByteArray.size]
  have hmax : nm.length ≤ 9223372036854775807 := by simpa only [maxLen] using hn
  go_enter Tryz.func97, Tryz.ntmps97
  go_wp2
  go_loopw [3] (fun i wr => ∃ k : Nat, k ≤ nm.length ∧ i = .int .i64 k ∧ charsB true (nm.take k) = true ∧ Below w.heap.size w wr) (fun i _ => nm.length - (intOf i).toNat)
  case atStart => exact ⟨0, Nat.zero_le _, rfl, rfl, Below.refl _ _⟩
  case round =>
    obtain ⟨k, hk, rfl, hch, hB⟩ := hrel
    have HCH := Lib.hid hch
    clear hch
    by_cases hlt : k < nm.length
    · have HT := Lib.hid (charsB_take nm k hlt)
      have hget : (ByteArray.mk nm.toArray)[k]'(by rw [hsz]; exact hlt) = nm[k] := rfl
      generalize nm[k] = c at *
      have hc0 : c.toNat < 256 := c.toNat_lt
      have hcs : (97 ≤ (c.toNat : Int) ∧ (c.toNat : Int) ≤ 122) ∨ ((c.toNat : Int) < 97 ∧ (k : Int) ≤ 0) ∨ ((c.toNat : Int) < 97 ∧ 0 < (k : Int) ∧ (c.toNat : Int) < 48) ∨ ((c.toNat : Int) < 97 ∧ 0 < (k : Int) ∧ 48 ≤ (c.toNat : Int) ∧ (c.toNat : Int) ≤ 57) ∨ ((c.toNat : Int) < 97 ∧ 0 < (k : Int) ∧ 48 ≤ (c.toNat : Int) ∧ 57 < (c.toNat : Int)) ∨ (97 ≤ (c.toNat : Int) ∧ 122 < (c.toNat : Int) ∧ (k : Int) ≤ 0) ∨ (97 ≤ (c.toNat : Int) ∧ 122 < (c.toNat : Int) ∧ 0 < (k : Int) ∧ 48 ≤ (c.toNat : Int) ∧ 57 < (c.toNat : Int)) := by omega
      have HR : Hid (charsB true (nm.take (k + 1)) = (letterB c || (decide (0 < k) && digitB c))) := Lib.hid (by rw [HT.out, HCH.out, Bool.true_and])
      clear HT HCH
      rcases hcs with ⟨a1, a2⟩ | ⟨a1, a2⟩ | ⟨a1, a2, a3⟩ | ⟨a1, a2, a3, a4⟩ | ⟨a1, a2, a3, a4⟩ | ⟨a1, a2, a3⟩ | ⟨a1, a2, a3, a4, a5⟩
      all_goals go_wp2
      all_goals first
        | (exfalso; rename_i hx; simp only [Bool.not_eq_false', Bool.not_eq_true', decide_eq_true_eq, decide_eq_false_iff_not] at hx; omega)
        | (go_ret
           have h0 : (letterB c || (decide (0 < k) && digitB c)) = false := charB_no c k (by omega)
           have h1 : nameB nm = false := nameB_short (k + 1) (by rw [HR.out, h0])
           rw [h1]
           exact ⟨rfl, hB⟩)
        | (go_roundw
           case rel => exact ⟨k + 1, by omega, by go_num, by rw [HR.out]; exact (charB_iff c k).2 (by omega), hB⟩
           case measure => simp [intOf]; omega)
    · have hk' : k = nm.length := by omega
      subst hk'
      have h0 : charsB true nm = true := by have := HCH.out; rwa [List.take_length] at this
      have HN : Hid (nameB nm = (decide (1 ≤ nm.length) && decide (nm.length ≤ 16))) := Lib.hid (by unfold nameB; rw [h0, Bool.true_and])
      clear h0
      go_wp2
      all_goals
        go_ret
        rw [HN.out]
        exact ⟨ret_bool (by simp only [Bool.and_eq_true, decide_eq_true_eq, Bool.false_eq_true, false_iff]; omega), hB⟩
theorem bytes_conv (nm : List UInt8) (w : World) : ∃ cap W1, (convert 9 38 (nmV nm)).run Tryz.prog w = .ok (.slice (some ⟨w.heap.size, 0, none⟩) nm.length cap) W1 ∧
    (∀ k (h : k < nm.length), W1.cell? ⟨w.heap.size, k, none⟩ = some (.int .u8 (nm[k].toNat : Int))) ∧ Below w.heap.size w W1 := by
  have h := run_bytes_of_string (P := Tryz.prog) w 9 38 5 ⟨nm.toArray⟩ Tryz.underlying9 Tryz.underlying38 Tryz.underlying5
  have hsz : (ByteArray.mk nm.toArray).size = nm.length := by simp [ByteArray.size]
  rw [hsz] at h
  refine ⟨_, _, h, fun k hk => ?_, Below.onAlloc (Below.drew (Below.refl _ _)) _⟩
  have h1 : ∀ (C : Array Value) (e : TypeId) (fr : Nat × Nat), (w.drew.alloc (.cells C e fr)).cell? ⟨w.heap.size, k, none⟩ = C[k]? := fun C e fr => by
    have : (w.drew.alloc (.cells C e fr)).heap[w.heap.size]? = some (.cells C e fr) := World.alloc_heap_new w.drew _
    unfold World.cell?
    rw [this]
    rfl
  rw [h1]
  unfold bytesRow
  rw [Array.getElem?_append_left (by simp; exact hk)]
  simp [hk]
set_option maxHeartbeats 4000000 in
theorem fname_any (nm : List UInt8) (w : World) (hn : nm.length ≤ maxLen) : Calls Tryz.prog 63 #[nmV nm] w fun e w' => e = .returned (.bool (nameB nm)) ∧ Below w.heap.size w w' := by
  have hsz : (ByteArray.mk nm.toArray).size = nm.length := by simp [ByteArray.size]
  have hmax : nm.length ≤ 9223372036854775807 := by simpa only [maxLen] using hn
  obtain ⟨cap, W1, hconv, hcell, hbel⟩ := bytes_conv nm w
  have HCELL := Lib.hid hcell
  have HBEL := Lib.hid hbel
  have HE : Hid (nm = [] ↔ nm.length = 0) := Lib.hid (by cases nm <;> simp)
  have hl1 : (ByteArray.mk nm.toArray).toList = nm := by rw [ByteArray.toList_eq]
  have hl2 : (ByteArray.mk #[]).toList = [] := by rw [ByteArray.toList_eq]
  clear hcell hbel
  go_enter Tryz.func63, Tryz.ntmps63
  go_wp2
  go_loopw [9] (fun i wr => ∃ k : Nat, k ≤ nm.length ∧ i = .int .i64 k ∧ charsB true (nm.take k) = true ∧ Below W1.heap.size W1 wr) (fun i _ => nm.length - (intOf i).toNat)
  case atStart => exact ⟨0, Nat.zero_le _, rfl, rfl, Below.refl _ _⟩
  case round =>
    obtain ⟨k, hk, rfl, hch, hB⟩ := hrel
    have HCH := Lib.hid hch
    clear hch
    by_cases hlt : k < nm.length
    · have HT := Lib.hid (charsB_take nm k hlt)
      have hget := hB.keep (HCELL.out k hlt)
      generalize nm[k] = c at *
      have hc0 : c.toNat < 256 := c.toNat_lt
      have hcs : (97 ≤ (c.toNat : Int) ∧ (c.toNat : Int) ≤ 122) ∨ ((c.toNat : Int) < 97 ∧ (k : Int) ≤ 0) ∨ ((c.toNat : Int) < 97 ∧ 0 < (k : Int) ∧ (c.toNat : Int) < 48) ∨ ((c.toNat : Int) < 97 ∧ 0 < (k : Int) ∧ 48 ≤ (c.toNat : Int) ∧ (c.toNat : Int) ≤ 57) ∨ ((c.toNat : Int) < 97 ∧ 0 < (k : Int) ∧ 48 ≤ (c.toNat : Int) ∧ 57 < (c.toNat : Int)) ∨ (97 ≤ (c.toNat : Int) ∧ 122 < (c.toNat : Int) ∧ (k : Int) ≤ 0) ∨ (97 ≤ (c.toNat : Int) ∧ 122 < (c.toNat : Int) ∧ 0 < (k : Int) ∧ 48 ≤ (c.toNat : Int) ∧ 57 < (c.toNat : Int)) := by omega
      have HR : Hid (charsB true (nm.take (k + 1)) = (letterB c || (decide (0 < k) && digitB c))) := Lib.hid (by rw [HT.out, HCH.out, Bool.true_and])
      clear HT HCH
      rcases hcs with ⟨a1, a2⟩ | ⟨a1, a2⟩ | ⟨a1, a2, a3⟩ | ⟨a1, a2, a3, a4⟩ | ⟨a1, a2, a3, a4⟩ | ⟨a1, a2, a3⟩ | ⟨a1, a2, a3, a4, a5⟩
      all_goals go_wp2
      all_goals first
        | (exfalso; rename_i hx; simp only [Bool.not_eq_false', Bool.not_eq_true', decide_eq_true_eq, decide_eq_false_iff_not] at hx; omega)
        | (exfalso; rename_i _ hx _; simp only [beq_iff_eq] at hx; omega)
        | (go_ret
           have h0 : (letterB c || (decide (0 < k) && digitB c)) = false := charB_no c k (by omega)
           have h1 : nameB nm = false := nameB_short (k + 1) (by rw [HR.out, h0])
           rw [h1]
           exact ⟨rfl, HBEL.out.on hB⟩)
        | (go_roundw
           case rel => exact ⟨k + 1, by omega, by go_num, by rw [HR.out]; exact (charB_iff c k).2 (by omega), hB⟩
           case measure => simp [intOf]; omega)
    · have hk' : k = nm.length := by omega
      subst hk'
      have h0 : charsB true nm = true := by have := HCH.out; rwa [List.take_length] at this
      have HN : Hid (nameB nm = (decide (1 ≤ nm.length) && decide (nm.length ≤ 16))) := Lib.hid (by unfold nameB; rw [h0, Bool.true_and])
      clear h0
      go_wp2
      all_goals
        go_ret
        rw [HN.out]
        first
          | (have h6 : nm.length = 0 := HE.out.1 ‹nm = []›
             exact ⟨ret_bool (by simp only [Bool.and_eq_true, decide_eq_true_eq, Bool.false_eq_true, false_iff]; omega), HBEL.out.on hB⟩)
          | (have h6 : nm.length ≠ 0 := fun h => absurd (HE.out.2 h) ‹¬ nm = []›
             have h7 : nm.isEmpty = false := by cases nm with | nil => exact absurd rfl h6 | cons _ _ => rfl
             exact ⟨ret_bool (by simp only [h7, Bool.not_false, true_and, Bool.and_eq_true, decide_eq_true_eq, Bool.false_eq_true, false_iff]; omega), HBEL.out.on hB⟩)
end Go.Proofs.YtpakjddfnhnndaaGreat
