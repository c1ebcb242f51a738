/-
  package alloc: fit, lowest.
  Conditions: as each theorem says.
-/
import Derived.Test.YtolhajkbamhdgaaAlA
import Derived.Test.YtolhajkbamhdgaaAlQ
import Derived.IntWalk
namespace Go.Proofs.Ytolhajkbamhdgaa
set_option linter.unusedSimpArgs false
set_option linter.unusedVariables false
open Go.RowKit

set_option maxRecDepth 100000 in
set_option maxHeartbeats 1000000 in
theorem fit1_any (x : E) (n : Int) (b : Nat) (w : World) (hc : w.cell? ⟨b, 0, none⟩ = some (.int .i64 n)) :
    Calls Try.prog 108 #[.agg #[.int .i64 x.a, .int .i64 x.n, .int .i64 x.s], .pointer (some ⟨b, 0, none⟩)] w fun e w' => e = .returned (.bool (longB n x)) ∧ Below w.heap.size w w' := by
  go_enter Try.func108, Try.ntmps108
  go_wp2
  go_ret
  exact ⟨ret_bool (by simp [longB]), (Below.refl _ _).onAlloc _⟩
set_option maxRecDepth 100000 in
set_option maxHeartbeats 1000000 in
theorem index_fit (l : List E) (n : Int) (a : Option Addr) (c q : Nat) (w : World) (hc : w.cell? ⟨q, 0, none⟩ = some (.int .i64 n)) (hr : Rd w a l) :
    Calls Try.prog 102 #[.slice a l.length c, .func (.func 108) #[] #[.pointer (some ⟨q, 0, none⟩)]] w fun e w' => e = .returned (.int .i64 (idxR l (longB n))) ∧ Below w.heap.size w w' := by
  have hlen := hr.1
  go_enter Try.func102, Try.ntmps102
  go_wp2_with fail
  go_loopw [8] (fun i wr => ∃ k : Nat, k ≤ l.length ∧ i = .int .i64 k ∧ (∀ x ∈ l.take k, longB n x = false) ∧ Below w.heap.size w wr) (fun i _ => l.length - (intOf i).toNat)
  case atStart => exact ⟨0, Nat.zero_le _, rfl, by simp, Below.refl _ _⟩
  case round =>
    obtain ⟨k, hk, rfl, hv, hB⟩ := hrel
    by_cases hlt : k < l.length
    · obtain ⟨b, o, rfl, hat⟩ := (hr.keep hB).at (by omega)
      obtain ⟨h1, h2, h3⟩ := hat k _ (List.getElem?_eq_getElem hlt)
      have HT := Lib.hid (idxR_at l (longB n) k hlt hv)
      have HF := Lib.hid (take_succ_false l (longB n) k hlt hv)
      have hcr := hB.keep hc
      generalize l[k] = x at *
      clear hat hr hv hc
      have hcon := Lib.hid (fit1_any x n q wr hcr)
      cases hp : longB n x
      · have HP := Lib.hid hp
        clear hp
        go_wp2_with fail
        refine hcon.out.mono ?_
        rintro e w1 ⟨rfl, hb1⟩
        rw [HP.out]
        go_wp2_with fail
        go_roundw
        case rel => exact ⟨k + 1, by omega, by go_num, HF.out HP.out, hB.on hb1⟩
        case measure => simp [intOf]; omega
      · have HP := Lib.hid hp
        clear hp
        go_wp2_with fail
        refine hcon.out.mono ?_
        rintro e w1 ⟨rfl, hb1⟩
        rw [HP.out]
        go_wp2_with fail
        go_ret
        exact ⟨ret_int (HT.out HP.out).symm, hB.on hb1⟩
    · have HN := Lib.hid (idxR_none l (longB n) (by rw [List.take_of_length_le (by omega)] at hv; exact hv))
      clear hv
      go_wp2
      go_ret
      exact ⟨ret_int HN.out.symm, hB⟩
set_option maxRecDepth 100000 in
set_option maxHeartbeats 1000000 in
theorem fit_no (l : List E) (n : Int) (a : Option Addr) (c : Nat) (w : World) (hr : Rd w a l) (h : fitS l n = none) :
    Calls Try.prog 95 #[.slice a l.length c, .int .i64 n] w fun e w' => e = .returned (.tuple #[.slice none 0 0, .bool false]) ∧ Below w.heap.size w w' := by
  have hN : idxR l (longB n) = -1 := idxR_none l (longB n) fun x hx => by
    unfold fitS at h
    rw [Option.map_eq_none_iff, List.find?_eq_none] at h
    have := h x hx
    simpa using this
  have HN := Lib.hid hN
  clear hN
  go_enter Try.func95, Try.ntmps95
  go_wp2_with fail
  have hcon := index_fit l n a c w.heap.size (w.alloc (.cells #[.int .i64 n] 3)) (by simp) (hr.keep ((Below.refl _ _).onAlloc _))
  rw [HN.out] at hcon
  refine hcon.mono ?_
  rintro e w1 ⟨rfl, hb1⟩
  clear hcon
  go_wp2_with fail
  go_ret2
  exact ⟨rfl, ((Below.refl _ _).onAlloc _).on hb1⟩
set_option maxRecDepth 100000 in
set_option maxHeartbeats 2000000 in
theorem fit_yes (l : List E) (n s : Int) (a : Option Addr) (c : Nat) (w : World) (hr : Rd w a l) (hok : ∀ x ∈ l, okB x = true) (hn : 1 ≤ n ∧ n ≤ 65536) (h : fitS l n = some s) :
    Calls Try.prog 95 #[.slice a l.length c, .int .i64 n] w fun e w' => ∃ v, e = .returned (.tuple #[v, .bool true]) ∧ OwnE w' w.heap.size v [⟨0, n, s⟩] ∧ Below w.heap.size w w' := by
  obtain ⟨x, hx, rfl⟩ := Option.map_eq_some_iff.1 h
  obtain ⟨k, hk, hlk, hkf, hfx⟩ := find_at l (longB n) x hx
  have HN : Hid (idxR l (longB n) = k) := Lib.hid (idxR_at l (longB n) k hk hkf (by rw [hlk]; exact hfx))
  obtain ⟨c1, c2, c3, c4, c5⟩ := (okB_iff _).1 (hok x (by rw [← hlk]; exact List.getElem_mem hk))
  have hnx : n ≤ x.n := of_decide_eq_true hfx
  have hlen := hr.1
  obtain ⟨b, o, rfl, hat⟩ := hr.at (by omega)
  obtain ⟨h1, h2, h3⟩ := hat k x (by rw [List.getElem?_eq_getElem hk, hlk])
  have hk0 : (0 : Int) ≤ k := by omega
  have hk1 : (k : Int) < l.length := by omega
  have HR := Lib.hid hr
  clear h hx hkf hfx hlk hat hok hr
  go_enter Try.func95, Try.ntmps95
  go_wp2_with fail
  have hcon := index_fit l n _ c w.heap.size (w.alloc (.cells #[.int .i64 n] 3)) (by simp) (HR.out.keep ((Below.refl _ _).onAlloc _))
  rw [HN.out] at hcon
  refine hcon.mono ?_
  rintro e w1 ⟨rfl, hb1⟩
  have hcn := hb1.keep (a := ⟨w.heap.size, 0, none⟩) (v := .int .i64 n) (by simp)
  have hB1 : Below w.heap.size w w1 := ((Below.refl w.heap.size w).onAlloc _).on hb1
  have hc3 := hB1.keep h3
  have q1 : IntKind.i64.wrap (x.s + n) = x.s + n := IntWalk.i64_in _ (by omega)
  have hsz := hB1.size
  clear hcon hb1 h1 h2 h3 HR
  go_wp2_with fail
  have HB := Lib.hid (Below.refl w1.drew.heap.size w1.drew)
  have hcd : w1.drew.cell? ⟨b, o + k * 3 + 2, none⟩ = some (.int .i64 x.s) := hc3
  have hcm : w1.drew.cell? ⟨w.heap.size, 0, none⟩ = some (.int .i64 n) := hcn
  go_region_held3 (fun w' => w'.cell? ⟨b, o + k * 3 + 2, none⟩ = some (.int .i64 x.s) ∧ w'.cell? ⟨w.heap.size, 0, none⟩ = some (.int .i64 n))
    (first | exact ⟨hc3, hcn⟩ | exact ⟨HB.out.keep hcd, HB.out.keep hcm⟩ | exact ⟨(HB.out.onAlloc _).keep hcd, (HB.out.onAlloc _).keep hcm⟩)
    ((go_at_call 107; refine (arun_any _ _ _ (by omega) (by omega)).mono ?_; rintro e w4 ⟨rfl, hb4⟩; have HB := Lib.hid (HB.out.on hb4)))
  go_wp2_with fail
  go_ret2
  have hE : runE x.s (x.s + n) = ⟨0, n, x.s⟩ := by unfold runE; congr 1; omega
  refine ⟨_, rfl, ?_, ?_⟩
  · rw [← hE]
    refine OwnE.lit w4 _ [runE x.s (x.s + n)] ?_ (by simp [maxLen]) _ ?_
    · simp [cellsL, E.cells]
    · exact Nat.le_trans hsz (HB.out.size)
  · exact (hB1.drew.on HB.out).onAlloc _

set_option maxRecDepth 100000 in
set_option maxHeartbeats 4000000 in
theorem lowest_any (l : List E) (n : Int) (a : Option Addr) (c : Nat) (w : World) (hr : Rd w a l) (hok : ∀ x ∈ l, okB x = true) (hl : l.length ≤ 1000000) (hn : 0 ≤ n ∧ n ≤ 65536) :
    Calls Try.prog 96 #[.slice a l.length c, .int .i64 n] w fun e w' => ∃ v, e = .returned v ∧ OwnE w' w.heap.size v (lowAll l n).1 ∧ Below w.heap.size w w' := by
  have HO := Lib.hid hok
  obtain ⟨n0, n1⟩ := hn
  have HLF := Lib.hid (low_facts l n n0 (fun x hx => ((okB_iff x).1 (hok x hx)).1))
  obtain ⟨i0, hi, hz0, hz1, hz2⟩ := info_parts infoE
  clear hok
  go_enter Try.func96, Try.ntmps96
  go_wp2_with fail
  go_loopw [1, 5, 11] (fun m v i wr => ∃ k : Nat, k ≤ l.length ∧ i = .int .i64 k ∧ m = .int .i64 (lowAll (l.take k) n).2 ∧ OwnE wr w.heap.size v (lowAll (l.take k) n).1 ∧ Below w.heap.size w wr) (fun _ _ i _ => l.length - (intOf i).toNat)
  case atStart => exact ⟨0, Nat.zero_le _, rfl, rfl, OwnE.nil _ _, Below.refl _ _⟩
  case round =>
    obtain ⟨k, hk, rfl, rfl, ho, hB⟩ := hrel
    by_cases hlt : k < l.length
    · obtain ⟨b, o, rfl, hat⟩ := (hr.keep hB).at (by omega)
      obtain ⟨h1, h2, h3⟩ := hat k _ (List.getElem?_eq_getElem hlt)
      obtain ⟨c1, c2, c3, c4, c5⟩ := (okB_iff _).1 (HO.out _ (List.getElem_mem hlt))
      have HT := Lib.hid (lowAll_take l n k hlt)
      obtain ⟨⟨f1, f2⟩, f3⟩ := HLF.out k hk
      generalize l[k] = x at *
      generalize lowAll (l.take k) n = st at *
      obtain ⟨R, m⟩ := st
      simp only at ho f1 f2 f3 HT
      simp only [lowStep] at HT
      have HOW := Lib.hid ho
      have hsz := hB.size
      clear hat hr ho
      by_cases hm : 0 < min m x.n
      · have d1 : decide (0 < min m x.n) = true := decide_eq_true hm
        have HS1 : Hid ((lowAll (l.take (k + 1)) n).1 = R ++ [⟨0, min m x.n, x.s⟩]) := Lib.hid (by rw [HT.out]; simp [hm])
        have HS2 : Hid ((lowAll (l.take (k + 1)) n).2 = m - min m x.n) := Lib.hid (by rw [HT.out])
        have q1 : IntKind.i64.wrap (x.s + min m x.n) = x.s + min m x.n := IntWalk.i64_in _ (by omega)
        have hmb : min m x.n ≤ 65536 := by omega
        clear HT
        go_wp2_with fail
        have hE : runE x.s (x.s + min m x.n) = ⟨0, min m x.n, x.s⟩ := by unfold runE; congr 1; omega
        refine (arun_any x.s (x.s + min m x.n) _ (by omega) (by omega)).mono ?_
        rw [hE]
        rintro e w4 ⟨rfl, hb4⟩
        have hbb := ((Below.refl wr.heap.size wr).onAlloc (.cells #[.int .i64 x.a, .int .i64 x.n, .int .i64 x.s] 41)).on hb4
        have HO4 := Lib.hid (HOW.out.keep hbb)
        have hB4 := hB.on hbb
        have hsz4 := hB4.size
        have q2 : IntKind.i64.wrap (m - min m x.n) = m - min m x.n := IntWalk.i64_in _ (by omega)
        clear hE hb4 hbb HOW
        go_wp2_with (at_builtin; refine wpList_append_x _ rfl _ _ 32 rfl w.heap.size 41 i0 (.agg #[.int .i64 0, .int .i64 0, .int .i64 0]) 3 24 Try.underlying32 hi hz0 hz1 hz2 rfl (by decide) _ _ _ rfl (World.ownsRow.alloc HO4.out _) ⟨w4.heap.size, 0, none⟩ 1 1 (E.cells (⟨0, min m x.n, x.s⟩ : E)) rfl rfl (newE _ _ (by simp) _ _) (cellsE_one _) (by first | omega | (simp only [List.length_nil, List.length_append, List.length_cons]; omega)) (by first | (simp only [maxLen]; omega) | (simp only [maxLen, List.length_nil, List.length_append, List.length_cons]; omega)) (by simp only [World.size_alloc]; omega) ?_; intro v1 w1 hown1 hgrow1 hwhere1)
        have hB5 := Lib.hid ((hB4.onAlloc (.cells #[.int .i64 0, .int .i64 (min m x.n), .int .i64 x.s] 41)).onGrow hgrow1 fun j hj => (HO4.out.lt j hj).1)
        have HO5 := Lib.hid (OwnE.snoc hown1 (by simp))
        clear hown1 hgrow1 hwhere1
        go_roundw
        case rel => exact ⟨k + 1, by omega, by go_num, by rw [HS2.out], by rw [HS1.out]; exact HO5.out, hB5.out⟩
        case measure => simp [intOf]; omega
      · have d1 : decide (0 < min m x.n) = false := decide_eq_false hm
        have HS1 : Hid ((lowAll (l.take (k + 1)) n).1 = R) := Lib.hid (by rw [HT.out]; simp [hm])
        have HS2 : Hid ((lowAll (l.take (k + 1)) n).2 = m - min m x.n) := Lib.hid (by rw [HT.out])
        have q2 : IntKind.i64.wrap (m - min m x.n) = m - min m x.n := IntWalk.i64_in _ (by omega)
        clear HT
        go_wp2_with fail
        go_roundw
        case rel => exact ⟨k + 1, by omega, by go_num, by rw [HS2.out], by rw [HS1.out]; exact HOW.out.keep ((Below.refl _ _).onAlloc _), hB.onAlloc _⟩
        case measure => simp [intOf]; omega
    · rw [List.take_of_length_le (by omega)] at ho
      go_wp2
      go_ret
      exact ⟨_, rfl, ho, hB⟩
end Go.Proofs.Ytolhajkbamhdgaa
