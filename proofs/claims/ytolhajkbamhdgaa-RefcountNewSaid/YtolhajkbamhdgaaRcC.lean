/-
  package refcount: Total, Used, Of, Slots, Add, and the search of a negative count.
  Conditions: as each theorem says.
-/
import Derived.Test.YtolhajkbamhdgaaRcB
namespace Go.Proofs.Ytolhajkbamhdgaa
set_option linter.unusedSimpArgs false
set_option linter.unusedVariables false
open Go.RowKit

theorem get_range {C : List Int} {lo hi : Int} (h : inR lo hi C) {k : Nat} (hk : k < C.length) : lo ≤ C[k] ∧ C[k] ≤ hi := h _ (List.getElem_mem hk)
theorem sum_bd {C : List Int} (h : inR 0 1000000000 C) : 0 ≤ sumC C ∧ sumC C ≤ 1000000000 * C.length := sumC_bound h (by omega)
theorem used_bd {C : List Int} (h : inR 0 1000000000 C) : 0 ≤ usedC C ∧ usedC C ≤ C.length := usedC_bound h
set_option maxRecDepth 100000 in
set_option maxHeartbeats 1000000 in
theorem foldT_any (C : List Int) (a : Option Addr) (c : Nat) (w : World) (hrC : RdI w a C) (hR : inR 0 1000000000 C) :
    Calls Try.prog 63 #[.slice a C.length c, .int .i64 0, .func (.func 64) #[] #[]] w fun e w' => e = .returned (.int .i64 (sumC C)) ∧ Below w.heap.size w w' := by
  have hC := hrC.1
  go_enter Try.func63, Try.ntmps63
  go_wp2_with fail
  go_loopw [1, 11] (fun r i wr => ∃ k : Nat, k ≤ C.length ∧ i = .int .i64 k ∧ r = .int .i64 (sumC (C.take k)) ∧ Below w.heap.size w wr) (fun _ i _ => C.length - (intOf i).toNat)
  case atStart => exact ⟨0, Nat.zero_le _, rfl, rfl, Below.refl _ _⟩
  case round =>
    obtain ⟨k, hk, rfl, rfl, hB⟩ := hrel
    by_cases hlt : k < C.length
    · obtain ⟨b, o, rfl, hat⟩ := (hrC.keep hB).at (by omega)
      have h1 := hat k _ (List.getElem?_eq_getElem hlt)
      have HT := Lib.hid (sumC_take C k hlt)
      obtain ⟨x1, x2⟩ := get_range hR hlt
      obtain ⟨s1, s2⟩ := sum_bd (take_range hR k)
      have hle : (C.take k).length ≤ 65536 := Nat.le_trans (List.length_take_le _ _) (by omega)
      generalize C[k] = x at *
      generalize sumC (C.take k) = sm at *
      clear hat hrC
      have hsm : sm ≤ 70000000000000 := by omega
      go_wp2
      all_goals
        go_roundw
        case rel => exact ⟨k + 1, by omega, by go_num, by rw [HT.out]; first | rfl | (go_num) | (rw [Int.min_eq_left (by omega)]) | (rw [Int.min_eq_right (by omega)]), by first | exact hB | (repeat (first | exact Below.refl _ _ | assumption | refine Below.onNext ?_ _ | refine Below.onAlloc ?_ _ | refine Below.setCell ?_ (by simp) _ | refine Below.drew ?_))⟩
        case measure => simp [intOf]; omega
    · go_wp2
      go_ret
      exact ⟨ret_int (by rw [List.take_of_length_le (by omega)]), hB⟩
set_option maxRecDepth 100000 in
set_option maxHeartbeats 1000000 in
theorem foldU_any (C : List Int) (a : Option Addr) (c : Nat) (w : World) (hrC : RdI w a C) (hR : inR 0 1000000000 C) :
    Calls Try.prog 63 #[.slice a C.length c, .int .i64 0, .func (.func 65) #[] #[]] w fun e w' => e = .returned (.int .i64 (usedC C)) ∧ Below w.heap.size w w' := by
  have hC := hrC.1
  go_enter Try.func63, Try.ntmps63
  go_wp2_with fail
  go_loopw [1, 11] (fun r i wr => ∃ k : Nat, k ≤ C.length ∧ i = .int .i64 k ∧ r = .int .i64 (usedC (C.take k)) ∧ Below w.heap.size w wr) (fun _ i _ => C.length - (intOf i).toNat)
  case atStart => exact ⟨0, Nat.zero_le _, rfl, rfl, Below.refl _ _⟩
  case round =>
    obtain ⟨k, hk, rfl, rfl, hB⟩ := hrel
    by_cases hlt : k < C.length
    · obtain ⟨b, o, rfl, hat⟩ := (hrC.keep hB).at (by omega)
      have h1 := hat k _ (List.getElem?_eq_getElem hlt)
      have HT := Lib.hid (usedC_take C k hlt)
      obtain ⟨x1, x2⟩ := get_range hR hlt
      obtain ⟨s1, s2⟩ := used_bd (take_range hR k)
      have hle : (C.take k).length ≤ 65536 := Nat.le_trans (List.length_take_le _ _) (by omega)
      generalize C[k] = x at *
      generalize usedC (C.take k) = sm at *
      clear hat hrC
      have hsm : sm ≤ 70000000000000 := by omega
      go_wp2
      all_goals
        go_roundw
        case rel => exact ⟨k + 1, by omega, by go_num, by rw [HT.out]; first | rfl | (go_num) | (rw [Int.min_eq_left (by omega)]) | (rw [Int.min_eq_right (by omega)]), by first | exact hB | (repeat (first | exact Below.refl _ _ | assumption | refine Below.onNext ?_ _ | refine Below.onAlloc ?_ _ | refine Below.setCell ?_ (by simp) _ | refine Below.drew ?_))⟩
        case measure => simp [intOf]; omega
    · go_wp2
      go_ret
      exact ⟨ret_int (by rw [List.take_of_length_le (by omega)]), hB⟩
set_option maxRecDepth 100000 in
set_option maxHeartbeats 1000000 in
theorem total_any (C : List Int) (a : Option Addr) (c : Nat) (w : World) (hrC : RdI w a C) (hR : inR 0 1000000000 C) :
    Calls Try.prog 26 #[.agg #[.slice a C.length c]] w fun e w' => e = .returned (.int .i64 (sumC C)) ∧ Below w.heap.size w w' := by
  go_enter Try.func26, Try.ntmps26
  go_wp2_with fail
  refine (foldT_any C a c _ (hrC.keep ((Below.refl _ _).onAlloc _)) hR).mono ?_
  rintro e w1 ⟨rfl, hb1⟩
  go_wp2_with fail
  go_ret
  exact ⟨rfl, ((Below.refl _ _).onAlloc _).on hb1⟩
set_option maxRecDepth 100000 in
set_option maxHeartbeats 1000000 in
theorem used_any (C : List Int) (a : Option Addr) (c : Nat) (w : World) (hrC : RdI w a C) (hR : inR 0 1000000000 C) :
    Calls Try.prog 27 #[.agg #[.slice a C.length c]] w fun e w' => e = .returned (.int .i64 (usedC C)) ∧ Below w.heap.size w w' := by
  go_enter Try.func27, Try.ntmps27
  go_wp2_with fail
  refine (foldU_any C a c _ (hrC.keep ((Below.refl _ _).onAlloc _)) hR).mono ?_
  rintro e w1 ⟨rfl, hb1⟩
  go_wp2_with fail
  go_ret
  exact ⟨rfl, ((Below.refl _ _).onAlloc _).on hb1⟩
set_option maxRecDepth 100000 in
set_option maxHeartbeats 1000000 in
theorem slots_any (a : Option Addr) (n c : Nat) (w : World) (hn : n ≤ 65536) :
    Calls Try.prog 28 #[.agg #[.slice a n c]] w fun e w' => e = .returned (.int .i64 n) ∧ Below w.heap.size w w' := by
  go_enter Try.func28, Try.ntmps28
  go_wp2
  go_ret
  exact ⟨rfl, (Below.refl _ _).onAlloc _⟩
/-- The count of a slot, if there is one. -/
def ofC (C : List Int) (s : Int) : Int := if 0 ≤ s ∧ s < C.length then C.getD s.toNat 0 else 0
set_option maxRecDepth 100000 in
set_option maxHeartbeats 1000000 in
theorem of_any (C : List Int) (a : Option Addr) (c : Nat) (s : Int) (w : World) (hrC : RdI w a C) :
    Calls Try.prog 32 #[.agg #[.slice a C.length c], .int .i64 s] w fun e w' => e = .returned (.int .i64 (ofC C s)) ∧ Below w.heap.size w w' := by
  have hC := hrC.1
  by_cases hs : 0 ≤ s ∧ s < C.length
  · obtain ⟨h0, h1⟩ := hs
    have HF : Hid (ofC C s = C.getD s.toNat 0) := Lib.hid (if_pos ⟨h0, h1⟩)
    obtain ⟨n, rfl⟩ := Int.eq_ofNat_of_zero_le h0
    have hn : n < C.length := by omega
    obtain ⟨b, o, rfl, hat⟩ := hrC.at (by omega)
    have hc := hat n _ (getD_some C n hn)
    rw [Int.toNat_natCast] at HF
    generalize C.getD n 0 = x at *
    clear hat hrC
    go_enter Try.func32, Try.ntmps32
    go_wp2
    go_ret
    exact ⟨ret_int HF.out.symm, (Below.refl _ _).onAlloc _⟩
  · have HF : Hid (ofC C s = 0) := Lib.hid (if_neg hs)
    by_cases h0 : s < 0
    all_goals
      go_enter Try.func32, Try.ntmps32
      go_wp2
      all_goals first | (exfalso; omega) | (go_ret; exact ⟨ret_int HF.out.symm, (Below.refl _ _).onAlloc _⟩)
set_option maxRecDepth 100000 in
set_option maxHeartbeats 1000000 in
theorem add_yes (C : List Int) (l : List E) (a al : Option Addr) (c cl : Nat) (w : World) (hrC : RdI w a C) (hr : Rd w al l) (hw : wfL l) (hp : permB C.length l = true) (hR : inR 0 1000000000 C) (hl : l.length ≤ 1000000000) :
    Calls Try.prog 19 #[.agg #[.slice a C.length c], .slice al l.length cl] w fun e w' => ∃ v, e = .returned (.tuple #[.agg #[v], .int .i64 0]) ∧ OwnI w' w.heap.size v (chgL C l 1) ∧ Below w.heap.size w w' := by
  have hC := hrC.1
  have HP := Lib.hid hp
  clear hp
  go_enter Try.func19, Try.ntmps19
  go_wp2_with fail
  refine (permitted_is C l a al c cl _ hC (hr.keep ?_) hw true HP.out).mono ?_
  · (repeat (first | exact Below.refl _ _ | assumption | refine Below.onNext ?_ _ | refine Below.onAlloc ?_ _ | refine Below.setCell ?_ (by simp) _ | refine Below.drew ?_))
  rintro e w1 ⟨rfl, hb1⟩
  have hc0 := hb1.keep (a := ⟨w.heap.size, 0, none⟩) (by simp; rfl)
  have hc := hb1.keep (a := ⟨w.heap.size + 1, 0, none⟩) (by simp; rfl)
  have hf := hb1.keepF (a := ⟨w.heap.size + 1, 0, none⟩) (by simp; rfl) (b := false) (by simp)
  have hB1 : Below w.heap.size w w1 := (((Below.refl w.heap.size w).onAlloc _).onAlloc _).on hb1
  have hz1 := hb1.size
  simp only [World.size_alloc] at hz1
  clear hb1
  go_wp2_with fail
  refine (changed_any C l 1 a al c cl _ (hrC.keep hB1) (hr.keep hB1) HP.out (by omega) (inR_mono hR (by omega) (by omega)) hl).mono ?_
  rintro e w2 ⟨v, rfl, ho, hb2⟩
  have hc := hb2.keep hc
  have hf := hb2.keepF ‹w1.cell? ⟨w.heap.size + 1, 0, none⟩ = _› hf
  have hB2 := hB1.on hb2
  have ho := (ho.mono (B' := w.heap.size + 1 + 1) hz1)
  obtain ⟨a2, c2, rfl, _⟩ := ho.rd (by rw [chgL_length]; exact hC)
  rw [chgL_length] at ho ⊢
  have HO := Lib.hid ho
  clear ho
  go_wp2_with fail
  refine bodyPost_ret (v := .tuple #[.agg #[.slice a2 C.length c2], .int .i64 0]) ?_ rfl ⟨_, rfl, ?_, ?_⟩
  · simp [results, Try.results19, go_sem, hc, hf]
  · exact (HO.out.away _ _ (fun h => by have := (HO.out.lt _ h).1; simp at this; omega)).mono (by omega)
  · exact hB2.setCell (by simp) _
set_option maxRecDepth 100000 in
set_option maxHeartbeats 1000000 in
theorem add_no (C : List Int) (l : List E) (a al : Option Addr) (c cl : Nat) (w : World) (hC : C.length ≤ 65536) (hr : Rd w al l) (hw : wfL l) (hp : permB C.length l = false) :
    Calls Try.prog 19 #[.agg #[.slice a C.length c], .slice al l.length cl] w fun e w' => e = .returned (.tuple #[.agg #[.slice none 0 0], .int .i64 2]) ∧ Below w.heap.size w w' := by
  have HP := Lib.hid hp
  clear hp
  go_enter Try.func19, Try.ntmps19
  go_wp2_with fail
  refine (permitted_is C l a al c cl _ hC (hr.keep ?_) hw false HP.out).mono ?_
  · (repeat (first | exact Below.refl _ _ | assumption | refine Below.onNext ?_ _ | refine Below.onAlloc ?_ _ | refine Below.setCell ?_ (by simp) _ | refine Below.drew ?_))
  rintro e w1 ⟨rfl, hb1⟩
  have hc := hb1.keep (a := ⟨w.heap.size + 1, 0, none⟩) (by simp; rfl)
  have hf := hb1.keepF (a := ⟨w.heap.size + 1, 0, none⟩) (by simp; rfl) (b := false) (by simp)
  have hB1 : Below w.heap.size w w1 := (((Below.refl w.heap.size w).onAlloc _).onAlloc _).on hb1
  clear hb1
  go_wp2_with fail
  refine bodyPost_ret (v := .tuple #[.agg #[.slice none 0 0], .int .i64 2]) ?_ rfl ⟨rfl, ?_⟩
  · simp [results, Try.results19, go_sem, hc, hf]
  · exact hB1.setCell (by simp) _

/-! ### A negative count -/
def negB (C : List Int) : Bool := C.any fun x => decide (x < 0)
theorem negB_iff (C : List Int) : negB C = false ↔ ∀ x ∈ C, 0 ≤ x := by simp [negB]
theorem negB_take (C : List Int) (k : Nat) (h : k < C.length) : negB (C.take (k + 1)) = (negB (C.take k) || decide (C[k] < 0)) := by
  rw [List.take_succ_eq_append_getElem h]; simp only [negB, List.any_append, List.any_cons, List.any_nil, Bool.or_false]
theorem negB_at (C : List Int) (k : Nat) (h : k < C.length) (hx : C[k] < 0) : negB C = true := List.any_eq_true.2 ⟨_, List.getElem_mem h, decide_eq_true hx⟩
def FoundNeg (C : List Int) (w : World) (e : Ending) (w' : World) : Prop := ∃ r : Int, e = .returned (.int .i64 r) ∧ decide (0 ≤ r) = negB C ∧ Below w.heap.size w w'
set_option maxRecDepth 100000 in
set_option maxHeartbeats 1000000 in
theorem index_neg (C : List Int) (a : Option Addr) (c : Nat) (w : World) (hrC : RdI w a C) :
    Calls Try.prog 86 #[.slice a C.length c, .func (.func 56) #[] #[]] w (FoundNeg C w) := by
  have hC := hrC.1
  go_enter Try.func86, Try.ntmps86
  go_wp2_with fail
  go_loopw [8] (fun i wr => ∃ k : Nat, k ≤ C.length ∧ i = .int .i64 k ∧ negB (C.take k) = false ∧ Below w.heap.size w wr) (fun i _ => C.length - (intOf i).toNat)
  case atStart => exact ⟨0, Nat.zero_le _, rfl, rfl, Below.refl _ _⟩
  case round =>
    obtain ⟨k, hk, rfl, hn, hB⟩ := hrel
    by_cases hlt : k < C.length
    · obtain ⟨b, o, rfl, hat⟩ := (hrC.keep hB).at (by omega)
      have h1 := hat k _ (List.getElem?_eq_getElem hlt)
      have HT := Lib.hid (negB_take C k hlt)
      have HA := Lib.hid (negB_at C k hlt)
      have HN := Lib.hid hn
      generalize C[k] = x at *
      clear hat hrC hn
      by_cases hx : x < 0
      · have hd : decide (x < 0) = true := by simpa using hx
        have HF := Lib.hid (HA.out hx)
        clear hx HA
        go_wp2
        go_ret
        exact ⟨k, rfl, by rw [HF.out]; simp, hB⟩
      · have hd : decide (x < 0) = false := by simpa using hx
        have HD := Lib.hid hd
        clear hx HA
        go_wp2
        go_roundw
        case rel => exact ⟨k + 1, by omega, by go_num, by rw [HT.out, HN.out, HD.out]; rfl, hB⟩
        case measure => simp [intOf]; omega
    · have HN := Lib.hid hn
      clear hn
      go_wp2
      go_ret
      refine ⟨-1, rfl, ?_, hB⟩
      have := HN.out
      rw [List.take_of_length_le (by omega)] at this
      rw [this]
      rfl
set_option maxRecDepth 100000 in
set_option maxHeartbeats 1000000 in
theorem contains_neg (C : List Int) (a : Option Addr) (c : Nat) (w : World) (hrC : RdI w a C) (r : Bool) (hn : negB C = r) :
    Calls Try.prog 55 #[.slice a C.length c, .func (.func 56) #[] #[]] w fun e w' => e = .returned (.bool r) ∧ Below w.heap.size w w' := by
  subst hn
  go_enter Try.func55, Try.ntmps55
  go_wp2_with fail
  refine (index_neg C a c _ hrC).mono ?_
  rintro e w1 ⟨r, rfl, hr, hb1⟩
  have HR := Lib.hid hr
  clear hr
  go_wp2_with fail
  go_ret
  exact ⟨ret_bool (by rw [← HR.out]), hb1⟩
end Go.Proofs.Ytolhajkbamhdgaa
