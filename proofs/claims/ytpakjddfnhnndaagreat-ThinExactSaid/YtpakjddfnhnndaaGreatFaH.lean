/-
  package extree: Cut, Range, Find, Blocks.
  Conditions: as each theorem says.
-/
import Derived.Test.YtpakjddfnhnndaaGreatGQ
import Derived.Deep.LoopGhost
namespace Go.Proofs.YtpakjddfnhnndaaGreat
set_option linter.unusedSimpArgs false
set_option linter.unusedVariables false
set_option maxRecDepth 100000
open Go.RowKit

set_option maxHeartbeats 1000000 in
theorem tproper_any (p n : Int) (w : World) (hp : -9223372036854775808 ≤ p ∧ p ≤ 9223372036854775807) (hn : -9223372036854775808 ≤ n ∧ n ≤ 9223372036854775807) :
    Calls Tryz.prog 132 #[.int .i64 p, .int .i64 n] w fun e w' => e = .returned (.bool (withinB p n 65536)) ∧ w = w' := by
  go_enter Tryz.func132, Tryz.ntmps132
  go_wp2
  all_goals
    go_ret
    exact ⟨ret_bool (by simp only [withinB, decide_eq_true_eq, Bool.false_eq_true, false_iff]; omega), rfl⟩
theorem tproper_is (p n : Int) (r : Bool) (w : World) (hr : withinB p n 65536 = r) (hp : -9223372036854775808 ≤ p ∧ p ≤ 9223372036854775807) (hn : -9223372036854775808 ≤ n ∧ n ≤ 9223372036854775807) :
    Calls Tryz.prog 132 #[.int .i64 p, .int .i64 n] w fun e w' => e = .returned (.bool r) ∧ w = w' := by
  subst hr
  exact tproper_any p n w hp hn
/-- A result cell of one pointer. -/
structure CSt (w W : World) (R : Nat) : Prop where
  r0 : W.cell? ⟨R, 0, none⟩ = some (.pointer none)
  rf : W.frozen? ⟨R, 0, none⟩ = false
  r7 : W.cell? ⟨R, 7, none⟩ = none
  le : w.heap.size ≤ R
  bel : Below w.heap.size w W
theorem CSt.later {w W W' : World} {R : Nat} (h : CSt w W R) (hb : Below W.heap.size W W') : CSt w W' R :=
  ⟨hb.keep h.r0, hb.keepF h.r0 h.rf, (hb.cell (p := ⟨R, 7, none⟩) (World.block_lt_of_cell? W ⟨R, 0, none⟩ h.r0)).trans h.r7, h.le, h.bel.on hb⟩
theorem parts_empty (l : List E) (p : Int) : partsL l p p = [] := by
  refine List.map_eq_nil_iff.2 (List.filter_eq_nil_iff.2 fun x _ => ?_)
  unfold partB
  simp only [decide_eq_true_eq]
  omega
theorem in_zero (l : List E) (p : Int) : inL l p 0 = [] := by rw [inL_eq, Int.add_zero, parts_empty]; rfl
def CutBad (w : World) (e : Ending) (w' : World) : Prop := e = .returned (.tuple #[.agg #[.pointer none], .slice none 0 0, .int .i64 1]) ∧ Below w.heap.size w w'
set_option maxHeartbeats 1000000 in
theorem cut_bad (p n : Int) (v : Value) (w : World) (hv : ∃ a, v = .pointer a) (hw : withinB p n 65536 = false) (hp : -9223372036854775808 ≤ p ∧ p ≤ 9223372036854775807) (hn : -9223372036854775808 ≤ n ∧ n ≤ 9223372036854775807) :
    Calls Tryz.prog 101 #[.agg #[v], .int .i64 p, .int .i64 n] w (CutBad w) := by
  obtain ⟨a, rfl⟩ := hv
  have HW := Lib.hid hw
  clear hw
  go_enter Tryz.func101, Tryz.ntmps101
  go_wp2_with fail
  refine (tproper_is p n false _ HW.out hp hn).mono ?_
  rintro e w1 ⟨rfl, rfl⟩
  go_wp2_with fail
  (try simp only [Exit.inBlock, Exit.then])
  refine bodyPost_ret (v := .tuple #[.agg #[.pointer none], .slice none 0 0, .int .i64 1]) (by first | (rw [results_cell_tmp rfl]; go_simp; done) | (rw [results_cell_tmp2 rfl]; go_simp; done) | (rw [results_cell_one rfl]; go_simp; done)) rfl ?_
  exact ⟨rfl, by (repeat (first | exact Below.refl _ _ | assumption | refine Below.onNext ?_ _ | refine Below.onAlloc ?_ _ | refine Below.setCell ?_ (by simp) _ | refine Below.drew ?_))⟩
set_option maxHeartbeats 8000000 in
theorem cut_tree' (t : Tr) (p n : Int) (v : Value) (w : World) (ht : IsTr w v t) (hv : validB t.toL = true) (hnm : normB t.toL = true) (hw : withinB p n 65536 = true) :
    Calls Tryz.prog 101 #[.agg #[v], .int .i64 p, .int .i64 n] w (PutPost w (cutL t.toL p n) (inL t.toL p n)) := by
  obtain ⟨a, rfl⟩ := ht.form
  obtain ⟨c1, c2, c3, c4⟩ : 0 ≤ p ∧ 0 ≤ n ∧ p ≤ 65536 ∧ n ≤ 65536 - p := of_decide_eq_true hw
  have HV := Lib.hid hv
  have HN := Lib.hid hnm
  have HW := Lib.hid hw
  have HT := Lib.hid ht
  clear hv hnm hw ht
  by_cases h0 : n = 0
  · subst h0
    go_enter Tryz.func101, Tryz.ntmps101
    go_wp2_with fail
    refine (tproper_is p 0 true _ HW.out (by omega) (by omega)).mono ?_
    rintro e w1 ⟨rfl, rfl⟩
    go_wp2_with fail
    (try simp only [Exit.inBlock, Exit.then])
    refine bodyPost_ret (v := .tuple #[.agg #[.pointer a], .slice none 0 0, .int .i64 0]) (by first | (rw [results_cell_tmp rfl]; go_simp; done) | (rw [results_cell_tmp2 rfl]; go_simp; done) | (rw [results_cell_one rfl]; go_simp; done)) rfl ?_
    have hB : Below w.heap.size w ((w.alloc (.cells #[.pointer a] 112)).alloc (.cells #[.pointer a] 112)) := by (repeat (first | exact Below.refl _ _ | assumption | refine Below.onNext ?_ _ | refine Below.onAlloc ?_ _ | refine Below.setCell ?_ (by simp) _ | refine Below.drew ?_))
    exact ⟨_, t, _, rfl, IsTr.keep hB t HT.out, (cut_zero t.toL p HV.out HN.out).symm, by rw [in_zero]; exact OwnE.nil _ _, hB⟩
  · go_enter Tryz.func101, Tryz.ntmps101
    go_wp2_with fail
    refine (tproper_is p n true _ HW.out (by omega) (by omega)).mono ?_
    rintro e w1 ⟨rfl, rfl⟩
    have hB : Below w.heap.size w ((w.alloc (.cells #[.pointer a] 112)).alloc (.cells #[.pointer none] 112)) := by (repeat (first | exact Below.refl _ _ | assumption | refine Below.onNext ?_ _ | refine Below.onAlloc ?_ _ | refine Below.setCell ?_ (by simp) _ | refine Below.drew ?_))
    have hC : CSt w ((w.alloc (.cells #[.pointer a] 112)).alloc (.cells #[.pointer none] 112)) (w.heap.size + 1) :=
      ⟨by rw [World.cell?_alloc_at (hn := by simp)]; rfl, by rw [World.frozen?_alloc_at (hn := by simp)], by rw [World.cell?_alloc_at (hn := by simp)]; rfl, by omega, hB⟩
    have HC := Lib.hid hC
    clear hB hC
    go_wp2_with fail
    have hsz := valid_short HV.out
    have hts : t.toL.length = t.size := rfl
    refine (split_tree p (by omega) (by omega) t (.pointer a) _ (IsTr.keep HC.out.bel t HT.out) ⟨validB_ok HV.out, by omega⟩ HV.out).mono ?_
    rintro e w2 ⟨va, vb, ta, tb, rfl, hta, htb, hA, hB, hb2⟩
    obtain ⟨aa, rfl⟩ := hta.form
    obtain ⟨ab, rfl⟩ := htb.form
    have hpl := partsL_length t.toL p 65536
    have hvb : validB tb.toL = true := by rw [hB]; exact parts_valid _ _ _ HV.out
    have hbs : tb.size ≤ 1000000 := by show tb.toL.length ≤ _; rw [hB]; omega
    have HTA := Lib.hid hta
    have HTB := Lib.hid htb
    have HA := Lib.hid hA
    have HB := Lib.hid hB
    have HVB := Lib.hid hvb
    have HC := Lib.hid (HC.out.later hb2)
    clear hb2 hta htb hA hB hpl hvb
    go_wp2_with fail
    refine (split_tree (p + n) (by omega) (by omega) tb (.pointer ab) w2 HTB.out ⟨validB_ok HVB.out, hbs⟩ HVB.out).mono ?_
    rintro e w3 ⟨vm, vc, tm, tc, rfl, htm, htc, hM, hE, hb3⟩
    obtain ⟨am, rfl⟩ := htm.form
    obtain ⟨ac, rfl⟩ := htc.form
    have hvl := validB_ok HV.out
    rw [HB.out, parts_low t.toL p (p + n) c1 (by omega) hvl, ← in_tree t.toL p n HV.out HN.out] at hM
    rw [HB.out, parts_high t.toL p (p + n) c1 (by omega) hvl] at hE
    have hA := HA.out
    have q1 := partsL_length t.toL 0 p
    have q2 := (inL_facts t.toL p n hvl).1
    have q3 := partsL_length t.toL (p + n) 65536
    have HTA := Lib.hid (IsTr.keep hb3 ta HTA.out)
    have HTM := Lib.hid htm
    have HTC := Lib.hid htc
    have HM := Lib.hid hM
    have HE := Lib.hid hE
    have HC := Lib.hid (HC.out.later hb3)
    have hms : tm.size ≤ 1000000000 := by show tm.toL.length ≤ _; rw [hM]; omega
    have HJ := Lib.hid (concat_tree ta tc (.pointer aa) (.pointer ac) w3 HTA.out HTC.out (by
      rw [hA, hE]
      intro y hy
      rcases List.mem_append.1 hy with hy | hy
      · exact partsL_ok t.toL _ _ hvl y hy
      · exact partsL_ok t.toL _ _ hvl y hy) (by rw [hA, hE, List.length_append]; omega))
    have HCUT := Lib.hid (cut_tree t.toL p n (by omega) HV.out HN.out)
    clear hb3 hM hE hA q1 q2 q3 htm htc hvl HTB HVB hbs
    go_wp2_with fail
    refine HJ.out.mono ?_
    rintro e w8 ⟨v8, t8, rfl, ht8, hl8, hb8⟩
    obtain ⟨a8, rfl⟩ := ht8.form
    have HTM := Lib.hid (IsTr.keep hb8 tm HTM.out)
    have HC := Lib.hid (HC.out.later hb8)
    have HT8 := Lib.hid ht8
    have HL8 := Lib.hid hl8
    clear ht8 hl8 hb8
    go_wp2_with fail
    refine (list_tree tm (.pointer am) w8 HTM.out hms).mono ?_
    rintro e w9 ⟨sv, rfl, ho, hb9⟩
    obtain ⟨sa, sc, rfl, _⟩ := ho.rd (by show tm.size ≤ _; omega)
    have P9 := HC.out.later hb9
    have r0 := P9.r0
    have rf := P9.rf
    have hsz8 := HC.out.bel.size
    have hr8 := World.block_lt_of_cell? w8 ⟨w.heap.size + 1, 0, none⟩ HC.out.r0
    have HT9 := Lib.hid (IsTr.away (i := 0) (u := .pointer a8) P9.r7 t8 (IsTr.keep hb9 t8 HT8.out))
    have HB9 := Lib.hid (P9.bel.setCell (p := ⟨w.heap.size + 1, 0, none⟩) (by simp only; omega) (.pointer a8))
    have HO9 := Lib.hid (OwnE.far ho ⟨w.heap.size + 1, 0, none⟩ (.pointer a8) fun h => by have := (ho.lt (w.heap.size + 1) h).1; simp only at hr8; omega)
    clear P9 ho hb9 hr8
    go_wp2_with fail
    have r1 := World.cell?_setCell_same w9 ⟨w.heap.size + 1, 0, none⟩ (.pointer a8) r0
    (try simp only [Exit.inBlock, Exit.then])
    refine bodyPost_ret (v := .tuple #[.agg #[.pointer a8], .slice sa tm.toL.length sc, .int .i64 0]) (by first | (rw [results_cell_tmp rfl]; go_simp; done) | (rw [results_cell_tmp2 rfl]; go_simp; done) | (rw [results_cell_one rfl]; go_simp; done)) rfl ?_
    exact ⟨_, t8, _, rfl, HT9.out, by rw [HL8.out, HA.out, HE.out, HCUT.out], by rw [← HM.out]; exact OwnE.mono HO9.out hsz8, HB9.out⟩
/-- What Range hands back. -/
def RngPost (w : World) (M : List E) (e : Ending) (w' : World) : Prop := ∃ sv, e = .returned sv ∧ OwnE w' w.heap.size sv M ∧ Below w.heap.size w w'
set_option maxHeartbeats 2000000 in
theorem trange_bad (p n : Int) (v : Value) (w : World) (hv : ∃ a, v = .pointer a) (hw : withinB p n 65536 = false) (hp : -9223372036854775808 ≤ p ∧ p ≤ 9223372036854775807) (hn : -9223372036854775808 ≤ n ∧ n ≤ 9223372036854775807) :
    Calls Tryz.prog 73 #[.agg #[v], .int .i64 p, .int .i64 n] w (RngPost w []) := by
  obtain ⟨a, rfl⟩ := hv
  have HW := Lib.hid hw
  clear hw
  go_enter Tryz.func73, Tryz.ntmps73
  go_wp2_with fail
  refine (cut_bad p n (.pointer a) _ ⟨a, rfl⟩ HW.out hp hn).mono ?_
  rintro e w1 ⟨rfl, hb1⟩
  have HB := Lib.hid hb1
  clear hb1
  go_wp2_with fail
  go_ret
  exact ⟨_, rfl, OwnE.nil _ _, Below.onAlloc (((Below.refl w.heap.size w).onAlloc (.cells #[.pointer a] 112)).on HB.out) _⟩
set_option maxHeartbeats 2000000 in
theorem trange_tree (t : Tr) (p n : Int) (v : Value) (w : World) (ht : IsTr w v t) (hv : validB t.toL = true) (hnm : normB t.toL = true) (hw : withinB p n 65536 = true) :
    Calls Tryz.prog 73 #[.agg #[v], .int .i64 p, .int .i64 n] w (RngPost w (inL t.toL p n)) := by
  obtain ⟨a, rfl⟩ := ht.form
  have hC := Lib.hid (fun w' (hb : Below w.heap.size w w') => cut_tree' t p n (.pointer a) w' (IsTr.keep hb t ht) hv hnm hw)
  have hsz := valid_short hv
  have hil := (inL_facts t.toL p n (validB_ok hv)).1
  clear ht hv hnm hw
  go_enter Tryz.func73, Tryz.ntmps73
  go_wp2_with fail
  refine (hC.out _ (by (repeat (first | exact Below.refl _ _ | assumption | refine Below.onNext ?_ _ | refine Below.onAlloc ?_ _ | refine Below.setCell ?_ (by simp) _ | refine Below.drew ?_)))).mono ?_
  rintro e w1 ⟨v1, t1, sv, rfl, ht1, hl1, ho, hb⟩
  obtain ⟨a1, rfl⟩ := ht1.form
  obtain ⟨sa, sc, rfl, _⟩ := ho.rd (by omega)
  have HO := Lib.hid ho
  have HB := Lib.hid hb
  clear ht1 hl1 ho hb
  go_wp2_with fail
  go_ret
  have hB := ((Below.refl w.heap.size w).onAlloc (.cells #[.pointer a] 112)).on HB.out
  exact ⟨.slice sa (inL t.toL p n).length sc, rfl, OwnE.mono (OwnE.keep HO.out ((Below.refl _ _).onAlloc _)) (by simp), hB.onAlloc _⟩
set_option maxHeartbeats 1000000 in
theorem tblocks_tree (t : Tr) (v : Value) (w : World) (ht : IsTr w v t) :
    Calls Tryz.prog 67 #[.agg #[v]] w fun e w' => e = .returned (.int .i64 (lenL t.toL)) ∧ Below w.heap.size w w' := by
  obtain ⟨a, rfl⟩ := ht.form
  have HT := Lib.hid ht
  clear ht
  go_enter Tryz.func67, Tryz.ntmps67
  go_wp2_with fail
  refine (mapped_is t _ (.pointer a) _ rfl (IsTr.keep ((Below.refl _ _).onAlloc _) t HT.out)).mono ?_
  rintro e w1 ⟨rfl, hb⟩
  have HB := Lib.hid hb
  clear hb
  go_wp2_with fail
  go_ret
  exact ⟨rfl, ((Below.refl _ _).onAlloc _).on HB.out⟩
/-! ### Find -/
theorem find_node {A B : List E} {x : E} (h : validB (A ++ x :: B) = true) (p : Int) :
    (p < x.a → findS (A ++ x :: B) p = findS A p ∧ findB (A ++ x :: B) p = findB A p) ∧ (x.a + x.n ≤ p → findS (A ++ x :: B) p = findS B p ∧ findB (A ++ x :: B) p = findB B p) ∧
      (x.a ≤ p → p < x.a + x.n → findS (A ++ x :: B) p = x.s + p - x.a ∧ findB (A ++ x :: B) p = true) := by
  obtain ⟨hA, hx, hB, h1, h2⟩ := valid_mid h
  obtain ⟨c1, c2, c3, c4, c5⟩ := (okB_iff x).1 hx
  have q0 : ∀ l : List E, (∀ y ∈ l, hits p y = false) → l.find? (hits p) = none := fun l hl => List.find?_eq_none.2 fun y hy => by rw [hl y hy]; simp
  have qA : x.a ≤ p → A.find? (hits p) = none := fun hp => q0 _ fun y hy => by
    have := h1 y hy
    cases hh : hits p y
    · rfl
    · have := (hits_iff p y).1 hh; omega
  have qB : p < x.a + x.n → B.find? (hits p) = none := fun hp => q0 _ fun y hy => by
    have := h2 y hy
    cases hh : hits p y
    · rfl
    · have := (hits_iff p y).1 hh; omega
  refine ⟨fun hp => ?_, fun hp => ?_, fun hp hq => ?_⟩
  · have hf : hits p x = false := by
      cases hh : hits p x
      · rfl
      · have := (hits_iff p x).1 hh; omega
    have : (A ++ x :: B).find? (hits p) = A.find? (hits p) := by
      rw [List.find?_append, List.find?_cons_of_neg (by rw [hf]; simp), qB (by omega)]
      simp
    unfold findS findB
    rw [this]
    exact ⟨rfl, rfl⟩
  · have hf : hits p x = false := by
      cases hh : hits p x
      · rfl
      · have := (hits_iff p x).1 hh; omega
    have : (A ++ x :: B).find? (hits p) = B.find? (hits p) := by
      rw [List.find?_append, List.find?_cons_of_neg (by rw [hf]; simp), qA (by omega)]
      simp
    unfold findS findB
    rw [this]
    exact ⟨rfl, rfl⟩
  · have hf : hits p x = true := (hits_iff p x).2 ⟨hp, hq⟩
    have : (A ++ x :: B).find? (hits p) = some x := by
      rw [List.find?_append, List.find?_cons_of_pos hf, qA hp]
      rfl
    unfold findS findB
    rw [this]
    exact ⟨rfl, rfl⟩
set_option maxHeartbeats 4000000 in
theorem tfind_tree (t : Tr) (p : Int) (v : Value) (w : World) (ht : IsTr w v t) (hv : validB t.toL = true) (hp : -9223372036854775808 ≤ p ∧ p ≤ 9223372036854775807) :
    Calls Tryz.prog 85 #[.agg #[v], .int .i64 p] w fun e w' => e = .returned (.tuple #[.int .i64 (findS t.toL p), .bool (findB t.toL p)]) ∧ Below w.heap.size w w' := by
  obtain ⟨a, rfl⟩ := ht.form
  have HT := Lib.hid ht
  have HV := Lib.hid hv
  clear ht hv
  go_enter Tryz.func85, Tryz.ntmps85
  go_wp2_with fail
  go_loopg [6] t.size (fun k i wr => ∃ (t' : Tr) (a' : Option Addr), i = .pointer a' ∧ t'.size ≤ k ∧ IsTr w (.pointer a') t' ∧ validB t'.toL = true ∧ findS t'.toL p = findS t.toL p ∧ findB t'.toL p = findB t.toL p ∧ Below w.heap.size w wr)
  case atStart => exact ⟨t, a, rfl, Nat.le_refl _, HT.out, HV.out, rfl, rfl, by (repeat (first | exact Below.refl _ _ | assumption | refine Below.onNext ?_ _ | refine Below.onAlloc ?_ _ | refine Below.setCell ?_ (by simp) _ | refine Below.drew ?_))⟩
  case round =>
    obtain ⟨t', a', rfl, hk, ht', hv', h1, h2, hB⟩ := hrel
    cases t' with
    | nil =>
      obtain h0 : a' = none := by simpa [IsTr] using ht'
      subst h0
      have H1 := Lib.hid h1
      have H2 := Lib.hid h2
      clear ht' hv' h1 h2 hk
      go_wp2_with fail
      refine bodyPost_ret (results_tmp2 rfl _ _ _) rfl ?_
      rw [← H1.out, ← H2.out]
      exact ⟨rfl, hB⟩
    | node l x r =>
      obtain ⟨b, vl, vr, hb, hn, hl, hr⟩ := ht'
      injection hb with hb'
      subst hb'
      obtain ⟨al, rfl⟩ := hl.form
      obtain ⟨ar, rfl⟩ := hr.form
      have z0 := hB.keep hn.a
      have z1 := hB.keep hn.n
      have z2 := hB.keep hn.s
      have z3 := hB.keep hn.l
      have z4 := hB.keep hn.r
      have hsz := Tr.size_node l r x
      obtain ⟨q1, q2, q3⟩ := find_node (A := l.toL) (B := r.toL) hv' p
      obtain ⟨hvl, hxo, hvr, _, _⟩ := valid_mid (A := l.toL) (B := r.toL) hv'
      obtain ⟨c1, c2, c3, c4, c5⟩ := (okB_iff x).1 hxo
      have HL := Lib.hid hl
      have HR := Lib.hid hr
      have HVL := Lib.hid hvl
      have HVR := Lib.hid hvr
      have Q1 := Lib.hid q1
      have Q2 := Lib.hid q2
      have Q3 := Lib.hid q3
      have H1 : Hid (findS (l.toL ++ x :: r.toL) p = findS t.toL p) := Lib.hid h1
      have H2 : Hid (findB (l.toL ++ x :: r.toL) p = findB t.toL p) := Lib.hid h2
      have hBd := Lib.hid hB
      clear hn hl hr hv' h1 h2 q1 q2 q3 hvl hvr hB hxo
      by_cases g1 : p < x.a
      · go_wp2_with fail
        go_roundg (gk - 1)
        case measure => omega
        case rel => exact ⟨l, al, rfl, by omega, HL.out, HVL.out, (Q1.out g1).1.symm.trans H1.out, (Q1.out g1).2.symm.trans H2.out, hBd.out⟩
      · by_cases g2 : x.a + x.n ≤ p
        · go_wp2_with fail
          go_region
          go_wp2_with fail
          go_roundg (gk - 1)
          case measure => omega
          case rel => exact ⟨r, ar, rfl, by omega, HR.out, HVR.out, (Q2.out g2).1.symm.trans H1.out, (Q2.out g2).2.symm.trans H2.out, (by have := hBd.out; (repeat (first | exact Below.refl _ _ | assumption | refine Below.onNext ?_ _ | refine Below.onAlloc ?_ _ | refine Below.setCell ?_ (by simp) _ | refine Below.drew ?_)))⟩
        · go_wp2_with fail
          go_region
          go_wp2_with fail
          go_region
          go_wp2_with fail
          refine bodyPost_ret (results_tmp2 rfl _ _ _) rfl ?_
          have h3 := Q3.out (by omega) (by omega)
          rw [← H1.out, ← H2.out, h3.1, h3.2]
          exact ⟨rfl, by have := hBd.out; (repeat (first | exact Below.refl _ _ | assumption | refine Below.onNext ?_ _ | refine Below.onAlloc ?_ _ | refine Below.setCell ?_ (by simp) _ | refine Below.drew ?_))⟩
end Go.Proofs.YtpakjddfnhnndaaGreat
