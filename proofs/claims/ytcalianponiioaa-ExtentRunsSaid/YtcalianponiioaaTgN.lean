/-
  extent.Put.
  Conditions: as each theorem says.
-/
import Derived.Test.YtcalianponiioaaTgM
namespace Go.Proofs.Ytcalianponiioaa
set_option linter.unusedSimpArgs false
set_option linter.unusedVariables false
open Go.RowKit

set_option maxHeartbeats 400000 in
theorem put1_any (a n s p : Int) (X : Nat) (w : World) (hX : w.cell? ⟨X, 0, none⟩ = some (.int .i64 p)) :
    Calls Try.prog 37 #[.agg #[.int .i64 a, .int .i64 n, .int .i64 s], .pointer (some ⟨X, 0, none⟩)] w fun e w' => e = .returned (.bool (decide (p < a))) ∧ Below w.heap.size w w' := by
  go_enter Try.func37, Try.ntmps37
  go_wp2
  go_ret
  exact ⟨rfl, (Below.refl _ _).onAlloc _⟩

theorem sepSym {v v' : Value} (h : v.ownBlock = none ∨ v.ownBlock ≠ v'.ownBlock) : v'.ownBlock = none ∨ v'.ownBlock ≠ v.ownBlock := by
  rcases h with h | h
  · cases hv : v'.ownBlock with
    | none => exact .inl rfl
    | some j => exact .inr (by rw [h]; simp)
  · exact .inr (Ne.symm h)
set_option maxHeartbeats 400000 in
theorem index_put (l : List E) (p : Int) (a : Option Addr) (c X : Nat) (w : World) (hr : Rd w a l) (hX : w.cell? ⟨X, 0, none⟩ = some (.int .i64 p)) :
    Calls Try.prog 36 #[.slice a l.length c, .func (.func 37) #[] #[.pointer (some ⟨X, 0, none⟩)]] w fun e w' => e = .returned (.int .i64 (idxR l fun y => decide (p < y.a))) ∧ Below w.heap.size w w' := by
  have hlen := hr.1
  go_enter Try.func36, Try.ntmps36
  go_wp2
  go_loopw [8] (fun i wr => ∃ k : Nat, k ≤ l.length ∧ i = .int .i64 k ∧ (∀ x ∈ l.take k, (decide (p < x.a)) = false) ∧ Below w.heap.size w wr) (fun i _ => l.length - (intOf i).toNat)
  case atStart => exact ⟨0, Nat.zero_le _, rfl, by simp, Below.refl _ _⟩
  case round =>
    obtain ⟨k, hk, rfl, hv, hB⟩ := hrel
    by_cases hlt : k < l.length
    · obtain ⟨b, o, rfl, hat⟩ := (hr.keep hB).at (by omega)
      obtain ⟨h1, h2, h3⟩ := hat k _ (List.getElem?_eq_getElem hlt)
      have hX2 := Lib.hid (hB.keep hX)
      have HT := Lib.hid (idxR_at l (fun y => decide (p < y.a)) k hlt hv)
      have HF := Lib.hid (take_succ_false l (fun y => decide (p < y.a)) k hlt hv)
      generalize l[k] = x at *
      clear hat hr hv hX
      by_cases hp : p < x.a
      · have HP := Lib.hid (decide_eq_true hp)
        clear hp
        go_wp2_with fail
        refine (put1_any _ _ _ p X _ hX2.out).mono ?_
        rintro e w1 ⟨rfl, hb1⟩
        rw [HP.out]
        go_wp2_with fail
        go_ret
        exact ⟨ret_int (HT.out HP.out).symm, hB.on hb1⟩
      · have HP := Lib.hid (decide_eq_false hp)
        clear hp
        go_wp2_with fail
        refine (put1_any _ _ _ p X _ hX2.out).mono ?_
        rintro e w1 ⟨rfl, hb1⟩
        rw [HP.out]
        go_wp2_with fail
        go_roundw
        case rel => exact ⟨k + 1, by omega, by go_num, HF.out HP.out, hB.on hb1⟩
        case measure => simp [intOf]; omega
    · have HN := Lib.hid (idxR_none l (fun y => decide (p < y.a)) (by rw [List.take_of_length_le (by omega)] at hv; exact hv))
      clear hv
      go_wp2
      go_ret
      exact ⟨ret_int HN.out.symm, hB⟩

set_option maxHeartbeats 1000000 in
theorem put_yes (l : List E) (x : E) (a : Option Addr) (c : Nat) (w : World) (hr : Rd w a l) (hw : wfL l) (hl : l.length ≤ 100000) (hv : validB l = true) (hx : okB x = true) :
    Calls Try.prog 24 #[.slice a l.length c, .agg #[.int .i64 x.a, .int .i64 x.n, .int .i64 x.s]] w (CutPost w (putL l x) (inL l x.a x.n)) := by
  have hx' := (okB_iff x).1 hx
  have HV := Lib.hid hv
  have HX := Lib.hid hx
  have HW : Hid (withinB x.a x.n 65536 = true) := Lib.hid (by simp [withinB]; omega)
  obtain ⟨f1, f2, f3, f4, f5⟩ := hx'
  clear hv hx
  go_enter Try.func24, Try.ntmps24
  go_wp2_with fail
  refine (proper_is _ _ _ _ true HX.out (by omega) (by omega) (by omega) (by omega)).mono ?_
  rintro e w1 ⟨rfl, hb1⟩
  have y1 : w1.cell? ⟨w.heap.size, 0, none⟩ = some (.int .i64 x.a) := hb1.keep (by simp)
  have y2 : w1.cell? ⟨w.heap.size, 1, none⟩ = some (.int .i64 x.n) := hb1.keep (by simp)
  have y3 : w1.cell? ⟨w.heap.size, 2, none⟩ = some (.int .i64 x.s) := hb1.keep (by simp)
  have hB1 := ((Below.refl w.heap.size w).onAlloc _).on hb1
  clear hb1
  go_wp2_with fail
  refine (cut_yes l x.a x.n _ _ _ (hr.keep hB1) hw (by omega) HV.out HW.out).mono ?_
  rintro e w2 ⟨v2, m2, rfl, ho2, hm2, hsep, hb2⟩
  have y1 := hb2.keep y1
  have y2 := hb2.keep y2
  have y3 := hb2.keep y3
  have hB2 := hB1.on hb2
  clear hb2
  go_wp2_with fail
  obtain ⟨cl, cok⟩ := cutL_facts l x.a x.n (validB_ok HV.out)
  obtain ⟨p1, p2, p3⟩ := put_insert l x HX.out HV.out
  have P2 := Lib.hid p2
  have P3 := Lib.hid p3
  have il := insertAt_length (cutL l x.a x.n) (idxP (cutL l x.a x.n) x.a) x p1
  have hip := idxR_put (cutL l x.a x.n) x.a
  have ilb := Nat.le_of_eq il
  generalize cutL l x.a x.n = R at *
  generalize hI : idxP R x.a = I at *
  obtain ⟨a2, c2, rfl, hr2⟩ := ho2.rd (by omega)
  have HO2 := Lib.hid (ho2.mono hB1.size)
  have HM2 := Lib.hid (hm2.mono hB1.size)
  have SEP := Lib.hid hsep
  clear ho2 hm2 hsep p2 p3 cok hI il
  refine (index_put R x.a _ _ _ _ hr2 y1).mono ?_
  rintro e w3 ⟨rfl, hb3⟩
  have y1 := hb3.keep y1
  have y2 := hb3.keep y2
  have y3 := hb3.keep y3
  have hB3 := hB2.on hb3
  have HO3 := Lib.hid (HO2.out.keep hb3)
  have HM3 := Lib.hid (HM2.out.keep hb3)
  clear hb3 HO2 HM2 hr2
  generalize (idxR R fun y => decide (x.a < y.a)) = r at *
  rcases hip with ⟨hneg, hI⟩ | hI
  · have hd : decide (r < 0) = true := decide_eq_true hneg
    subst hI
    clear hneg
    go_wp2_with fail
    refine (insert_any _ R R.length x w.heap.size w3.heap.size 1 _ (HO3.out.keep ((Below.refl _ _).onAlloc _)) (by have := hB3.size; simp; omega) (by omega) (by omega) (heap_alloc_new w3 _) (fun e => by have := (HO3.out.lt _ e).2; omega)).mono ?_
    rintro e w4 ⟨v4, rfl, ho4, hg4, hw4⟩
    have hm4 := (HM3.out.keep ((Below.refl _ _).onAlloc (.cells #[.int .i64 x.a, .int .i64 x.n, .int .i64 x.s] 33))).other hg4 (sepSym SEP.out)
    have hB4 := (hB3.onAlloc _).onGrow hg4 (fun j hj => (HO3.out.lt j hj).1)
    have HM4 := Lib.hid hm4
    obtain ⟨a4, c4, rfl, hr4⟩ := ho4.rd (by omega)
    clear ho4 hg4 hw4 HO3 HM3 hm4 hB3 y1 y2 y3
    go_wp2_with fail
    refine (join_yes (insertAt R R.length x) _ _ _ hr4 (wfL_of_ok (validB_ok P2.out)) (by omega) P2.out).mono ?_
    rintro e w5 ⟨v5, rfl, ho5, hb5⟩
    rw [P3.out] at ho5
    have hB5 := hB4.on hb5
    have HO5 := Lib.hid ho5
    have HM5 := Lib.hid (HM4.out.keep hb5)
    have SEP5 := Lib.hid (sepSym (sepOf (fun j hj => (HM4.out.lt j hj).2) ho5.lt))
    clear ho5 hb5 hr4
    have HB4 := Lib.hid hB4.size
    go_wp2_with fail
    go_ret3
    exact ⟨_, _, rfl, HO5.out.mono HB4.out, HM5.out, SEP5.out, hB5⟩
  · subst hI
    have hd : decide ((I : Int) < 0) = false := by simp
    go_wp2_with fail
    refine (insert_any _ R I x w.heap.size w3.heap.size 1 _ (HO3.out.keep ((Below.refl _ _).onAlloc _)) (by have := hB3.size; simp; omega) (by omega) (by omega) (heap_alloc_new w3 _) (fun e => by have := (HO3.out.lt _ e).2; omega)).mono ?_
    rintro e w4 ⟨v4, rfl, ho4, hg4, hw4⟩
    have hm4 := (HM3.out.keep ((Below.refl _ _).onAlloc (.cells #[.int .i64 x.a, .int .i64 x.n, .int .i64 x.s] 33))).other hg4 (sepSym SEP.out)
    have hB4 := (hB3.onAlloc _).onGrow hg4 (fun j hj => (HO3.out.lt j hj).1)
    have HM4 := Lib.hid hm4
    obtain ⟨a4, c4, rfl, hr4⟩ := ho4.rd (by omega)
    clear ho4 hg4 hw4 HO3 HM3 hm4 hB3 y1 y2 y3
    go_wp2_with fail
    refine (join_yes (insertAt R I x) _ _ _ hr4 (wfL_of_ok (validB_ok P2.out)) (by omega) P2.out).mono ?_
    rintro e w5 ⟨v5, rfl, ho5, hb5⟩
    rw [P3.out] at ho5
    have hB5 := hB4.on hb5
    have HO5 := Lib.hid ho5
    have HM5 := Lib.hid (HM4.out.keep hb5)
    have SEP5 := Lib.hid (sepSym (sepOf (fun j hj => (HM4.out.lt j hj).2) ho5.lt))
    clear ho5 hb5 hr4
    have HB4 := Lib.hid hB4.size
    go_wp2_with fail
    go_ret3
    exact ⟨_, _, rfl, HO5.out.mono HB4.out, HM5.out, SEP5.out, hB5⟩

set_option maxHeartbeats 400000 in
theorem put_no (l : List E) (x : E) (a : Option Addr) (c : Nat) (w : World) (hr : Rd w a l) (hw : wfL l) (hxw : x.wf) (hv : (validB l && okB x) = false) :
    Calls Try.prog 24 #[.slice a l.length c, .agg #[.int .i64 x.a, .int .i64 x.n, .int .i64 x.s]] w (CutNo w) := by
  obtain ⟨⟨b1, b2⟩, ⟨b3, b4⟩, ⟨b5, b6⟩⟩ := hxw
  cases hx : okB x
  · have HX := Lib.hid hx
    clear hx hv
    go_enter Try.func24, Try.ntmps24
    go_wp2_with fail
    refine (proper_is _ _ _ _ false HX.out b1 b2 b5 b6).mono ?_
    rintro e w1 ⟨rfl, hb1⟩
    have hB1 := ((Below.refl w.heap.size w).onAlloc _).on hb1
    go_wp2_with fail
    go_ret3
    exact ⟨rfl, hB1⟩
  · rw [hx] at hv
    have HX := Lib.hid hx
    have HV : Hid ((validB l && withinB x.a x.n 65536) = false) := Lib.hid (by
      have : validB l = false := by simpa using hv
      simp [this])
    clear hx hv
    go_enter Try.func24, Try.ntmps24
    go_wp2_with fail
    refine (proper_is _ _ _ _ true HX.out b1 b2 b5 b6).mono ?_
    rintro e w1 ⟨rfl, hb1⟩
    have y1 : w1.cell? ⟨w.heap.size, 0, none⟩ = some (.int .i64 x.a) := hb1.keep (by simp)
    have y2 : w1.cell? ⟨w.heap.size, 1, none⟩ = some (.int .i64 x.n) := hb1.keep (by simp)
    have hB1 := ((Below.refl w.heap.size w).onAlloc _).on hb1
    go_wp2_with fail
    refine (cut_no l x.a x.n _ _ _ (hr.keep hB1) hw b1 b2 HV.out).mono ?_
    rintro e w2 ⟨rfl, hb2⟩
    have hB2 := hB1.on hb2
    go_wp2_with fail
    go_ret3
    exact ⟨rfl, hB2⟩
end Go.Proofs.Ytcalianponiioaa
