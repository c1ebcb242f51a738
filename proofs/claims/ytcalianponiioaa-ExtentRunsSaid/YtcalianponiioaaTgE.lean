/-
  extent.Cut.
  Conditions: as each theorem says.
-/
import Derived.Test.YtcalianponiioaaTgD
namespace Go.Proofs.Ytcalianponiioaa
set_option linter.unusedSimpArgs false
set_option linter.unusedVariables false
open Go.RowKit

/-- Two owned lists beside a variable: the world of Cut's rounds. -/
structure St (w0 W : World) (X : Nat) (x : E) (vR : Value) (R : List E) (vM : Value) (M : List E) : Prop where
  x1 : W.cell? ⟨X, 0, none⟩ = some (.int .i64 x.a)
  x2 : W.cell? ⟨X, 1, none⟩ = some (.int .i64 x.n)
  x3 : W.cell? ⟨X, 2, none⟩ = some (.int .i64 x.s)
  hR : OwnE W w0.heap.size vR R
  hM : OwnE W w0.heap.size vM M
  nR : vR.ownBlock ≠ some X
  nM : vM.ownBlock ≠ some X
  sep : vR.ownBlock = none ∨ vR.ownBlock ≠ vM.ownBlock
  hB : Below w0.heap.size w0 W
section
variable {w0 W W' : World} {X : Nat} {x : E} {vR vM v : Value} {R M L : List E}
theorem St.later (h : St w0 W X x vR R vM M) (hb : Below W.heap.size W W') : St w0 W' X x vR R vM M :=
  ⟨hb.keep h.x1, hb.keep h.x2, hb.keep h.x3, h.hR.keep hb, h.hM.keep hb, h.nR, h.nM, h.sep, h.hB.on hb⟩
theorem St.alloc (h : St w0 W X x vR R vM M) (o : Obj) : St w0 (W.alloc o) X x vR R vM M := h.later ((Below.refl _ _).onAlloc o)
theorem St.lt (h : St w0 W X x vR R vM M) : X < W.heap.size := World.block_lt_of_cell? W _ h.x1
theorem St.pushR (h : St w0 W X x vR R vM M) (ho : OwnE W' w0.heap.size v L) (hg : W.grownBy W' vR.ownBlock) (hw : v.ownBlock = vR.ownBlock ∨ ∃ k, v.ownBlock = some k ∧ W.heap.size ≤ k) : St w0 W' X x v L vM M := by
  have hne : some X ≠ vR.ownBlock := fun e => h.nR e.symm
  have hsep : vM.ownBlock = none ∨ vM.ownBlock ≠ vR.ownBlock := by
    rcases h.sep with e | e
    · cases hm : vM.ownBlock with
      | none => exact .inl rfl
      | some j => exact .inr (by rw [e]; simp)
    · exact .inr (Ne.symm e)
  refine ⟨hg.cell h.x1 hne, hg.cell h.x2 hne, hg.cell h.x3 hne, ho, h.hM.other hg hsep, ?_, h.nM, ?_, h.hB.onGrow hg fun k hk => (h.hR.lt k hk).1⟩
  · rcases hw with e | ⟨k, e, hk⟩
    · rw [e]; exact h.nR
    · rw [e]; have := h.lt; simp; omega
  · rcases hw with e | ⟨k, e, hk⟩
    · rw [e]; exact h.sep
    · refine .inr ?_
      rw [e]
      intro he
      have := (h.hM.lt k he.symm).2
      omega
theorem St.swap (h : St w0 W X x vR R vM M) : St w0 W X x vM M vR R :=
  ⟨h.x1, h.x2, h.x3, h.hM, h.hR, h.nM, h.nR, by
    rcases h.sep with e | e
    · cases hm : vM.ownBlock with
      | none => exact .inl rfl
      | some j => exact .inr (by rw [e]; simp)
    · exact .inr (Ne.symm e), h.hB⟩
theorem St.pushM (h : St w0 W X x vR R vM M) (ho : OwnE W' w0.heap.size v L) (hg : W.grownBy W' vM.ownBlock) (hw : v.ownBlock = vM.ownBlock ∨ ∃ k, v.ownBlock = some k ∧ W.heap.size ≤ k) : St w0 W' X x vR R v L :=
  (h.swap.pushR ho hg hw).swap
end

/-- The two results of Cut. -/
def CutPost (w : World) (R M : List E) (e : Ending) (w' : World) : Prop :=
  ∃ v m, e = .returned (.tuple #[v, m, .int .i64 0]) ∧ OwnE w' w.heap.size v R ∧ OwnE w' w.heap.size m M ∧ (v.ownBlock = none ∨ v.ownBlock ≠ m.ownBlock) ∧ Below w.heap.size w w'

set_option maxHeartbeats 1000000 in
theorem cut_yes (l : List E) (p n : Int) (a : Option Addr) (c : Nat) (w : World) (hr : Rd w a l) (hw : wfL l) (hl : l.length ≤ 100000000) (hv : validB l = true) (hp : withinB p n 65536 = true) :
    Calls Try.prog 13 #[.slice a l.length c, .int .i64 p, .int .i64 n] w (CutPost w (cutL l p n) (inL l p n)) := by
  have HV := Lib.hid hv
  have HP := Lib.hid hp
  have HO := Lib.hid (validB_ok hv)
  obtain ⟨p0, n0, p1, n1⟩ : 0 ≤ p ∧ 0 ≤ n ∧ p ≤ 65536 ∧ n ≤ 65536 - p := by simpa [withinB] using hp
  clear hv hp
  go_enter Try.func13, Try.ntmps13
  go_wp2_with (first | (go_at_call 19; refine (valid_is _ _ _ _ _ HV.out hr hw).mono ?_; rintro e w' ⟨rfl, hb⟩) | (go_at_call 29; refine (within_is _ _ _ _ _ HP.out (by omega) (by omega) (by omega) (by omega)).mono ?_; rintro e w2 ⟨rfl, rfl⟩))
  go_loopw [9, 10, 30] (fun v m i wr => ∃ k : Nat, k ≤ l.length ∧ i = .int .i64 k ∧ OwnE wr w.heap.size v (cutL (l.take k) p n) ∧ OwnE wr w.heap.size m (inL (l.take k) p n) ∧ (v.ownBlock = none ∨ v.ownBlock ≠ m.ownBlock) ∧ Below w.heap.size w wr) (fun _ _ i _ => l.length - (intOf i).toNat)
  case atStart => exact ⟨0, Nat.zero_le _, rfl, OwnE.nil _ _, OwnE.nil _ _, .inl rfl, hb⟩
  case round =>
    obtain ⟨k, hk, rfl, hoR, hoM, hsep, hB⟩ := hrel
    by_cases hlt : k < l.length
    · obtain ⟨b, o, rfl, hat⟩ := (hr.keep hB).at (by omega)
      obtain ⟨h1, h2, h3⟩ := hat k _ (List.getElem?_eq_getElem hlt)
      have HX := Lib.hid (HO.out _ (List.getElem_mem hlt))
      have HC := Lib.hid (cutL_take l p n k hlt)
      have HI := Lib.hid (inL_take l p n k hlt)
      obtain ⟨cl, cok⟩ := cutL_facts (l.take k) p n (fun x hx => HO.out x (List.mem_of_mem_take hx))
      obtain ⟨il, iok⟩ := inL_facts (l.take k) p n (fun x hx => HO.out x (List.mem_of_mem_take hx))
      have htl := List.length_take_le k l
      generalize l[k] = x at *
      generalize cutL (l.take k) p n = R at *
      generalize inL (l.take k) p n = M at *
      have S : Hid (St w (wr.alloc (.cells #[.int .i64 x.a, .int .i64 x.n, .int .i64 x.s] 33)) wr.heap.size x u9 R u10 M) :=
        Lib.hid ⟨by simp, by simp, by simp, hoR.keep ((Below.refl _ _).onAlloc _), hoM.keep ((Below.refl _ _).onAlloc _), fun e => by have := (hoR.lt _ e).2; omega, fun e => by have := (hoM.lt _ e).2; omega, hsep, hB.onAlloc _⟩
      have COK := Lib.hid cok
      have IOK := Lib.hid iok
      clear hat hr hoR hoM cok iok
      have cln : R.length ≤ 200000000 := by omega
      have iln : M.length ≤ 200000000 := by omega
      clear cl il
      cases b1 : partB x 0 p <;> cases b2 : partB x p (p + n) <;> cases b3 : partB x (p + n) 65536
      all_goals
        have B1 := Lib.hid b1
        have B2 := Lib.hid b2
        have B3 := Lib.hid b3
        clear b1 b2 b3
      · go_wp2_with fail
        refine (part_is _ 0 p false _ B1.out HX.out (by omega) (by omega) (by omega) (by omega)).mono ?_
        rintro e W1 ⟨rfl, hb1⟩
        first | have S := Lib.hid (S.out.later hb1) | have S := Lib.hid ((S.out.alloc _).later hb1)
        have x1 := S.out.x1
        have x2 := S.out.x2
        have x3 := S.out.x3
        clear hb1
        go_wp2_with fail
        refine (part_is _ p (p + n) false _ B2.out HX.out (by omega) (by omega) (by omega) (by omega)).mono ?_
        rintro e W1 ⟨rfl, hb1⟩
        first | have S := Lib.hid (S.out.later hb1) | have S := Lib.hid ((S.out.alloc _).later hb1)
        have x1 := S.out.x1
        have x2 := S.out.x2
        have x3 := S.out.x3
        clear hb1
        go_wp2_with fail
        refine (part_is _ (p + n) 65536 false _ B3.out HX.out (by omega) (by omega) (by omega) (by omega)).mono ?_
        rintro e W1 ⟨rfl, hb1⟩
        first | have S := Lib.hid (S.out.later hb1) | have S := Lib.hid ((S.out.alloc _).later hb1)
        have x1 := S.out.x1
        have x2 := S.out.x2
        have x3 := S.out.x3
        clear hb1
        go_wp2_with fail
        go_roundw
        case rel => exact ⟨k + 1, by omega, by go_num, by rw [HC.out]; simp only [cutStep, pushIf, B1.out, B3.out, if_true, if_false, Bool.false_eq_true]; first | exact S.out.hR | exact (S.out.alloc _).hR, by rw [HI.out]; simp only [inStep, pushIf, B2.out, if_true, if_false, Bool.false_eq_true]; first | exact S.out.hM | exact (S.out.alloc _).hM, S.out.sep, by first | exact S.out.hB | exact (S.out.alloc _).hB⟩
        case measure => simp [intOf]; omega
      · go_wp2_with fail
        refine (part_is _ 0 p false _ B1.out HX.out (by omega) (by omega) (by omega) (by omega)).mono ?_
        rintro e W1 ⟨rfl, hb1⟩
        first | have S := Lib.hid (S.out.later hb1) | have S := Lib.hid ((S.out.alloc _).later hb1)
        have x1 := S.out.x1
        have x2 := S.out.x2
        have x3 := S.out.x3
        clear hb1
        go_wp2_with fail
        refine (part_is _ p (p + n) false _ B2.out HX.out (by omega) (by omega) (by omega) (by omega)).mono ?_
        rintro e W1 ⟨rfl, hb1⟩
        first | have S := Lib.hid (S.out.later hb1) | have S := Lib.hid ((S.out.alloc _).later hb1)
        have x1 := S.out.x1
        have x2 := S.out.x2
        have x3 := S.out.x3
        clear hb1
        go_wp2_with fail
        refine (part_is _ (p + n) 65536 true _ B3.out HX.out (by omega) (by omega) (by omega) (by omega)).mono ?_
        rintro e W1 ⟨rfl, hb1⟩
        first | have S := Lib.hid (S.out.later hb1) | have S := Lib.hid ((S.out.alloc _).later hb1)
        have x1 := S.out.x1
        have x2 := S.out.x2
        have x3 := S.out.x3
        clear hb1
        go_wp2_with fail
        have hsz := S.out.hB.size
        refine (push_any _ _ (partE x (p + n) 65536) w.heap.size _ (S.out.alloc _).hR (by simp; omega) (by omega) COK.out (partE_ok _ _ _ HX.out B3.out)).mono ?_
        rintro e W2 ⟨v2, rfl, ho2, hg2, hw2⟩
        have S := Lib.hid ((S.out.alloc _).pushR ho2 hg2 hw2)
        have COK := Lib.hid (pushL_ok _ (partE x (p + n) 65536) COK.out (partE_ok _ _ _ HX.out B3.out))
        have cln := Nat.le_trans (pushL_length _ (partE x (p + n) 65536)) (Nat.succ_le_succ cln)
        have x1 := S.out.x1
        have x2 := S.out.x2
        have x3 := S.out.x3
        clear ho2 hg2 hw2 hsz
        go_wp2_with fail
        go_roundw
        case rel => exact ⟨k + 1, by omega, by go_num, by rw [HC.out]; simp only [cutStep, pushIf, B1.out, B3.out, if_true, if_false, Bool.false_eq_true]; first | exact S.out.hR | exact (S.out.alloc _).hR, by rw [HI.out]; simp only [inStep, pushIf, B2.out, if_true, if_false, Bool.false_eq_true]; first | exact S.out.hM | exact (S.out.alloc _).hM, S.out.sep, by first | exact S.out.hB | exact (S.out.alloc _).hB⟩
        case measure => simp [intOf]; omega
      · go_wp2_with fail
        refine (part_is _ 0 p false _ B1.out HX.out (by omega) (by omega) (by omega) (by omega)).mono ?_
        rintro e W1 ⟨rfl, hb1⟩
        first | have S := Lib.hid (S.out.later hb1) | have S := Lib.hid ((S.out.alloc _).later hb1)
        have x1 := S.out.x1
        have x2 := S.out.x2
        have x3 := S.out.x3
        clear hb1
        go_wp2_with fail
        refine (part_is _ p (p + n) true _ B2.out HX.out (by omega) (by omega) (by omega) (by omega)).mono ?_
        rintro e W1 ⟨rfl, hb1⟩
        first | have S := Lib.hid (S.out.later hb1) | have S := Lib.hid ((S.out.alloc _).later hb1)
        have x1 := S.out.x1
        have x2 := S.out.x2
        have x3 := S.out.x3
        clear hb1
        go_wp2_with fail
        have hsz := S.out.hB.size
        refine (push_any _ _ (partE x p (p + n)) w.heap.size _ (S.out.alloc _).hM (by simp; omega) (by omega) IOK.out (partE_ok _ _ _ HX.out B2.out)).mono ?_
        rintro e W2 ⟨v2, rfl, ho2, hg2, hw2⟩
        have S := Lib.hid ((S.out.alloc _).pushM ho2 hg2 hw2)
        have IOK := Lib.hid (pushL_ok _ (partE x p (p + n)) IOK.out (partE_ok _ _ _ HX.out B2.out))
        have iln := Nat.le_trans (pushL_length _ (partE x p (p + n))) (Nat.succ_le_succ iln)
        have x1 := S.out.x1
        have x2 := S.out.x2
        have x3 := S.out.x3
        clear ho2 hg2 hw2 hsz
        go_wp2_with fail
        refine (part_is _ (p + n) 65536 false _ B3.out HX.out (by omega) (by omega) (by omega) (by omega)).mono ?_
        rintro e W1 ⟨rfl, hb1⟩
        first | have S := Lib.hid (S.out.later hb1) | have S := Lib.hid ((S.out.alloc _).later hb1)
        have x1 := S.out.x1
        have x2 := S.out.x2
        have x3 := S.out.x3
        clear hb1
        go_wp2_with fail
        go_roundw
        case rel => exact ⟨k + 1, by omega, by go_num, by rw [HC.out]; simp only [cutStep, pushIf, B1.out, B3.out, if_true, if_false, Bool.false_eq_true]; first | exact S.out.hR | exact (S.out.alloc _).hR, by rw [HI.out]; simp only [inStep, pushIf, B2.out, if_true, if_false, Bool.false_eq_true]; first | exact S.out.hM | exact (S.out.alloc _).hM, S.out.sep, by first | exact S.out.hB | exact (S.out.alloc _).hB⟩
        case measure => simp [intOf]; omega
      · go_wp2_with fail
        refine (part_is _ 0 p false _ B1.out HX.out (by omega) (by omega) (by omega) (by omega)).mono ?_
        rintro e W1 ⟨rfl, hb1⟩
        first | have S := Lib.hid (S.out.later hb1) | have S := Lib.hid ((S.out.alloc _).later hb1)
        have x1 := S.out.x1
        have x2 := S.out.x2
        have x3 := S.out.x3
        clear hb1
        go_wp2_with fail
        refine (part_is _ p (p + n) true _ B2.out HX.out (by omega) (by omega) (by omega) (by omega)).mono ?_
        rintro e W1 ⟨rfl, hb1⟩
        first | have S := Lib.hid (S.out.later hb1) | have S := Lib.hid ((S.out.alloc _).later hb1)
        have x1 := S.out.x1
        have x2 := S.out.x2
        have x3 := S.out.x3
        clear hb1
        go_wp2_with fail
        have hsz := S.out.hB.size
        refine (push_any _ _ (partE x p (p + n)) w.heap.size _ (S.out.alloc _).hM (by simp; omega) (by omega) IOK.out (partE_ok _ _ _ HX.out B2.out)).mono ?_
        rintro e W2 ⟨v2, rfl, ho2, hg2, hw2⟩
        have S := Lib.hid ((S.out.alloc _).pushM ho2 hg2 hw2)
        have IOK := Lib.hid (pushL_ok _ (partE x p (p + n)) IOK.out (partE_ok _ _ _ HX.out B2.out))
        have iln := Nat.le_trans (pushL_length _ (partE x p (p + n))) (Nat.succ_le_succ iln)
        have x1 := S.out.x1
        have x2 := S.out.x2
        have x3 := S.out.x3
        clear ho2 hg2 hw2 hsz
        go_wp2_with fail
        refine (part_is _ (p + n) 65536 true _ B3.out HX.out (by omega) (by omega) (by omega) (by omega)).mono ?_
        rintro e W1 ⟨rfl, hb1⟩
        first | have S := Lib.hid (S.out.later hb1) | have S := Lib.hid ((S.out.alloc _).later hb1)
        have x1 := S.out.x1
        have x2 := S.out.x2
        have x3 := S.out.x3
        clear hb1
        go_wp2_with fail
        have hsz := S.out.hB.size
        refine (push_any _ _ (partE x (p + n) 65536) w.heap.size _ (S.out.alloc _).hR (by simp; omega) (by omega) COK.out (partE_ok _ _ _ HX.out B3.out)).mono ?_
        rintro e W2 ⟨v2, rfl, ho2, hg2, hw2⟩
        have S := Lib.hid ((S.out.alloc _).pushR ho2 hg2 hw2)
        have COK := Lib.hid (pushL_ok _ (partE x (p + n) 65536) COK.out (partE_ok _ _ _ HX.out B3.out))
        have cln := Nat.le_trans (pushL_length _ (partE x (p + n) 65536)) (Nat.succ_le_succ cln)
        have x1 := S.out.x1
        have x2 := S.out.x2
        have x3 := S.out.x3
        clear ho2 hg2 hw2 hsz
        go_wp2_with fail
        go_roundw
        case rel => exact ⟨k + 1, by omega, by go_num, by rw [HC.out]; simp only [cutStep, pushIf, B1.out, B3.out, if_true, if_false, Bool.false_eq_true]; first | exact S.out.hR | exact (S.out.alloc _).hR, by rw [HI.out]; simp only [inStep, pushIf, B2.out, if_true, if_false, Bool.false_eq_true]; first | exact S.out.hM | exact (S.out.alloc _).hM, S.out.sep, by first | exact S.out.hB | exact (S.out.alloc _).hB⟩
        case measure => simp [intOf]; omega
      · go_wp2_with fail
        refine (part_is _ 0 p true _ B1.out HX.out (by omega) (by omega) (by omega) (by omega)).mono ?_
        rintro e W1 ⟨rfl, hb1⟩
        first | have S := Lib.hid (S.out.later hb1) | have S := Lib.hid ((S.out.alloc _).later hb1)
        have x1 := S.out.x1
        have x2 := S.out.x2
        have x3 := S.out.x3
        clear hb1
        go_wp2_with fail
        have hsz := S.out.hB.size
        refine (push_any _ _ (partE x 0 p) w.heap.size _ (S.out.alloc _).hR (by simp; omega) (by omega) COK.out (partE_ok _ _ _ HX.out B1.out)).mono ?_
        rintro e W2 ⟨v2, rfl, ho2, hg2, hw2⟩
        have S := Lib.hid ((S.out.alloc _).pushR ho2 hg2 hw2)
        have COK := Lib.hid (pushL_ok _ (partE x 0 p) COK.out (partE_ok _ _ _ HX.out B1.out))
        have cln := Nat.le_trans (pushL_length _ (partE x 0 p)) (Nat.succ_le_succ cln)
        have x1 := S.out.x1
        have x2 := S.out.x2
        have x3 := S.out.x3
        clear ho2 hg2 hw2 hsz
        go_wp2_with fail
        refine (part_is _ p (p + n) false _ B2.out HX.out (by omega) (by omega) (by omega) (by omega)).mono ?_
        rintro e W1 ⟨rfl, hb1⟩
        first | have S := Lib.hid (S.out.later hb1) | have S := Lib.hid ((S.out.alloc _).later hb1)
        have x1 := S.out.x1
        have x2 := S.out.x2
        have x3 := S.out.x3
        clear hb1
        go_wp2_with fail
        refine (part_is _ (p + n) 65536 false _ B3.out HX.out (by omega) (by omega) (by omega) (by omega)).mono ?_
        rintro e W1 ⟨rfl, hb1⟩
        first | have S := Lib.hid (S.out.later hb1) | have S := Lib.hid ((S.out.alloc _).later hb1)
        have x1 := S.out.x1
        have x2 := S.out.x2
        have x3 := S.out.x3
        clear hb1
        go_wp2_with fail
        go_roundw
        case rel => exact ⟨k + 1, by omega, by go_num, by rw [HC.out]; simp only [cutStep, pushIf, B1.out, B3.out, if_true, if_false, Bool.false_eq_true]; first | exact S.out.hR | exact (S.out.alloc _).hR, by rw [HI.out]; simp only [inStep, pushIf, B2.out, if_true, if_false, Bool.false_eq_true]; first | exact S.out.hM | exact (S.out.alloc _).hM, S.out.sep, by first | exact S.out.hB | exact (S.out.alloc _).hB⟩
        case measure => simp [intOf]; omega
      · go_wp2_with fail
        refine (part_is _ 0 p true _ B1.out HX.out (by omega) (by omega) (by omega) (by omega)).mono ?_
        rintro e W1 ⟨rfl, hb1⟩
        first | have S := Lib.hid (S.out.later hb1) | have S := Lib.hid ((S.out.alloc _).later hb1)
        have x1 := S.out.x1
        have x2 := S.out.x2
        have x3 := S.out.x3
        clear hb1
        go_wp2_with fail
        have hsz := S.out.hB.size
        refine (push_any _ _ (partE x 0 p) w.heap.size _ (S.out.alloc _).hR (by simp; omega) (by omega) COK.out (partE_ok _ _ _ HX.out B1.out)).mono ?_
        rintro e W2 ⟨v2, rfl, ho2, hg2, hw2⟩
        have S := Lib.hid ((S.out.alloc _).pushR ho2 hg2 hw2)
        have COK := Lib.hid (pushL_ok _ (partE x 0 p) COK.out (partE_ok _ _ _ HX.out B1.out))
        have cln := Nat.le_trans (pushL_length _ (partE x 0 p)) (Nat.succ_le_succ cln)
        have x1 := S.out.x1
        have x2 := S.out.x2
        have x3 := S.out.x3
        clear ho2 hg2 hw2 hsz
        go_wp2_with fail
        refine (part_is _ p (p + n) false _ B2.out HX.out (by omega) (by omega) (by omega) (by omega)).mono ?_
        rintro e W1 ⟨rfl, hb1⟩
        first | have S := Lib.hid (S.out.later hb1) | have S := Lib.hid ((S.out.alloc _).later hb1)
        have x1 := S.out.x1
        have x2 := S.out.x2
        have x3 := S.out.x3
        clear hb1
        go_wp2_with fail
        refine (part_is _ (p + n) 65536 true _ B3.out HX.out (by omega) (by omega) (by omega) (by omega)).mono ?_
        rintro e W1 ⟨rfl, hb1⟩
        first | have S := Lib.hid (S.out.later hb1) | have S := Lib.hid ((S.out.alloc _).later hb1)
        have x1 := S.out.x1
        have x2 := S.out.x2
        have x3 := S.out.x3
        clear hb1
        go_wp2_with fail
        have hsz := S.out.hB.size
        refine (push_any _ _ (partE x (p + n) 65536) w.heap.size _ (S.out.alloc _).hR (by simp; omega) (by omega) COK.out (partE_ok _ _ _ HX.out B3.out)).mono ?_
        rintro e W2 ⟨v2, rfl, ho2, hg2, hw2⟩
        have S := Lib.hid ((S.out.alloc _).pushR ho2 hg2 hw2)
        have COK := Lib.hid (pushL_ok _ (partE x (p + n) 65536) COK.out (partE_ok _ _ _ HX.out B3.out))
        have cln := Nat.le_trans (pushL_length _ (partE x (p + n) 65536)) (Nat.succ_le_succ cln)
        have x1 := S.out.x1
        have x2 := S.out.x2
        have x3 := S.out.x3
        clear ho2 hg2 hw2 hsz
        go_wp2_with fail
        go_roundw
        case rel => exact ⟨k + 1, by omega, by go_num, by rw [HC.out]; simp only [cutStep, pushIf, B1.out, B3.out, if_true, if_false, Bool.false_eq_true]; first | exact S.out.hR | exact (S.out.alloc _).hR, by rw [HI.out]; simp only [inStep, pushIf, B2.out, if_true, if_false, Bool.false_eq_true]; first | exact S.out.hM | exact (S.out.alloc _).hM, S.out.sep, by first | exact S.out.hB | exact (S.out.alloc _).hB⟩
        case measure => simp [intOf]; omega
      · go_wp2_with fail
        refine (part_is _ 0 p true _ B1.out HX.out (by omega) (by omega) (by omega) (by omega)).mono ?_
        rintro e W1 ⟨rfl, hb1⟩
        first | have S := Lib.hid (S.out.later hb1) | have S := Lib.hid ((S.out.alloc _).later hb1)
        have x1 := S.out.x1
        have x2 := S.out.x2
        have x3 := S.out.x3
        clear hb1
        go_wp2_with fail
        have hsz := S.out.hB.size
        refine (push_any _ _ (partE x 0 p) w.heap.size _ (S.out.alloc _).hR (by simp; omega) (by omega) COK.out (partE_ok _ _ _ HX.out B1.out)).mono ?_
        rintro e W2 ⟨v2, rfl, ho2, hg2, hw2⟩
        have S := Lib.hid ((S.out.alloc _).pushR ho2 hg2 hw2)
        have COK := Lib.hid (pushL_ok _ (partE x 0 p) COK.out (partE_ok _ _ _ HX.out B1.out))
        have cln := Nat.le_trans (pushL_length _ (partE x 0 p)) (Nat.succ_le_succ cln)
        have x1 := S.out.x1
        have x2 := S.out.x2
        have x3 := S.out.x3
        clear ho2 hg2 hw2 hsz
        go_wp2_with fail
        refine (part_is _ p (p + n) true _ B2.out HX.out (by omega) (by omega) (by omega) (by omega)).mono ?_
        rintro e W1 ⟨rfl, hb1⟩
        first | have S := Lib.hid (S.out.later hb1) | have S := Lib.hid ((S.out.alloc _).later hb1)
        have x1 := S.out.x1
        have x2 := S.out.x2
        have x3 := S.out.x3
        clear hb1
        go_wp2_with fail
        have hsz := S.out.hB.size
        refine (push_any _ _ (partE x p (p + n)) w.heap.size _ (S.out.alloc _).hM (by simp; omega) (by omega) IOK.out (partE_ok _ _ _ HX.out B2.out)).mono ?_
        rintro e W2 ⟨v2, rfl, ho2, hg2, hw2⟩
        have S := Lib.hid ((S.out.alloc _).pushM ho2 hg2 hw2)
        have IOK := Lib.hid (pushL_ok _ (partE x p (p + n)) IOK.out (partE_ok _ _ _ HX.out B2.out))
        have iln := Nat.le_trans (pushL_length _ (partE x p (p + n))) (Nat.succ_le_succ iln)
        have x1 := S.out.x1
        have x2 := S.out.x2
        have x3 := S.out.x3
        clear ho2 hg2 hw2 hsz
        go_wp2_with fail
        refine (part_is _ (p + n) 65536 false _ B3.out HX.out (by omega) (by omega) (by omega) (by omega)).mono ?_
        rintro e W1 ⟨rfl, hb1⟩
        first | have S := Lib.hid (S.out.later hb1) | have S := Lib.hid ((S.out.alloc _).later hb1)
        have x1 := S.out.x1
        have x2 := S.out.x2
        have x3 := S.out.x3
        clear hb1
        go_wp2_with fail
        go_roundw
        case rel => exact ⟨k + 1, by omega, by go_num, by rw [HC.out]; simp only [cutStep, pushIf, B1.out, B3.out, if_true, if_false, Bool.false_eq_true]; first | exact S.out.hR | exact (S.out.alloc _).hR, by rw [HI.out]; simp only [inStep, pushIf, B2.out, if_true, if_false, Bool.false_eq_true]; first | exact S.out.hM | exact (S.out.alloc _).hM, S.out.sep, by first | exact S.out.hB | exact (S.out.alloc _).hB⟩
        case measure => simp [intOf]; omega
      · go_wp2_with fail
        refine (part_is _ 0 p true _ B1.out HX.out (by omega) (by omega) (by omega) (by omega)).mono ?_
        rintro e W1 ⟨rfl, hb1⟩
        first | have S := Lib.hid (S.out.later hb1) | have S := Lib.hid ((S.out.alloc _).later hb1)
        have x1 := S.out.x1
        have x2 := S.out.x2
        have x3 := S.out.x3
        clear hb1
        go_wp2_with fail
        have hsz := S.out.hB.size
        refine (push_any _ _ (partE x 0 p) w.heap.size _ (S.out.alloc _).hR (by simp; omega) (by omega) COK.out (partE_ok _ _ _ HX.out B1.out)).mono ?_
        rintro e W2 ⟨v2, rfl, ho2, hg2, hw2⟩
        have S := Lib.hid ((S.out.alloc _).pushR ho2 hg2 hw2)
        have COK := Lib.hid (pushL_ok _ (partE x 0 p) COK.out (partE_ok _ _ _ HX.out B1.out))
        have cln := Nat.le_trans (pushL_length _ (partE x 0 p)) (Nat.succ_le_succ cln)
        have x1 := S.out.x1
        have x2 := S.out.x2
        have x3 := S.out.x3
        clear ho2 hg2 hw2 hsz
        go_wp2_with fail
        refine (part_is _ p (p + n) true _ B2.out HX.out (by omega) (by omega) (by omega) (by omega)).mono ?_
        rintro e W1 ⟨rfl, hb1⟩
        first | have S := Lib.hid (S.out.later hb1) | have S := Lib.hid ((S.out.alloc _).later hb1)
        have x1 := S.out.x1
        have x2 := S.out.x2
        have x3 := S.out.x3
        clear hb1
        go_wp2_with fail
        have hsz := S.out.hB.size
        refine (push_any _ _ (partE x p (p + n)) w.heap.size _ (S.out.alloc _).hM (by simp; omega) (by omega) IOK.out (partE_ok _ _ _ HX.out B2.out)).mono ?_
        rintro e W2 ⟨v2, rfl, ho2, hg2, hw2⟩
        have S := Lib.hid ((S.out.alloc _).pushM ho2 hg2 hw2)
        have IOK := Lib.hid (pushL_ok _ (partE x p (p + n)) IOK.out (partE_ok _ _ _ HX.out B2.out))
        have iln := Nat.le_trans (pushL_length _ (partE x p (p + n))) (Nat.succ_le_succ iln)
        have x1 := S.out.x1
        have x2 := S.out.x2
        have x3 := S.out.x3
        clear ho2 hg2 hw2 hsz
        go_wp2_with fail
        refine (part_is _ (p + n) 65536 true _ B3.out HX.out (by omega) (by omega) (by omega) (by omega)).mono ?_
        rintro e W1 ⟨rfl, hb1⟩
        first | have S := Lib.hid (S.out.later hb1) | have S := Lib.hid ((S.out.alloc _).later hb1)
        have x1 := S.out.x1
        have x2 := S.out.x2
        have x3 := S.out.x3
        clear hb1
        go_wp2_with fail
        have hsz := S.out.hB.size
        refine (push_any _ _ (partE x (p + n) 65536) w.heap.size _ (S.out.alloc _).hR (by simp; omega) (by omega) COK.out (partE_ok _ _ _ HX.out B3.out)).mono ?_
        rintro e W2 ⟨v2, rfl, ho2, hg2, hw2⟩
        have S := Lib.hid ((S.out.alloc _).pushR ho2 hg2 hw2)
        have COK := Lib.hid (pushL_ok _ (partE x (p + n) 65536) COK.out (partE_ok _ _ _ HX.out B3.out))
        have cln := Nat.le_trans (pushL_length _ (partE x (p + n) 65536)) (Nat.succ_le_succ cln)
        have x1 := S.out.x1
        have x2 := S.out.x2
        have x3 := S.out.x3
        clear ho2 hg2 hw2 hsz
        go_wp2_with fail
        go_roundw
        case rel => exact ⟨k + 1, by omega, by go_num, by rw [HC.out]; simp only [cutStep, pushIf, B1.out, B3.out, if_true, if_false, Bool.false_eq_true]; first | exact S.out.hR | exact (S.out.alloc _).hR, by rw [HI.out]; simp only [inStep, pushIf, B2.out, if_true, if_false, Bool.false_eq_true]; first | exact S.out.hM | exact (S.out.alloc _).hM, S.out.sep, by first | exact S.out.hB | exact (S.out.alloc _).hB⟩
        case measure => simp [intOf]; omega
    · go_wp2
      go_ret3
      rw [List.take_of_length_le (by omega)] at hoR hoM
      exact ⟨_, _, rfl, hoR, hoM, hsep, hB⟩

def CutNo (w : World) (e : Ending) (w' : World) : Prop := e = .returned (.tuple #[.slice none 0 0, .slice none 0 0, .int .i64 1]) ∧ Below w.heap.size w w'
set_option maxHeartbeats 400000 in
theorem cut_no (l : List E) (p n : Int) (a : Option Addr) (c : Nat) (w : World) (hr : Rd w a l) (hw : wfL l) (hp0 : -9223372036854775808 ≤ p) (hp1 : p ≤ 9223372036854775807) (hv : (validB l && withinB p n 65536) = false) :
    Calls Try.prog 13 #[.slice a l.length c, .int .i64 p, .int .i64 n] w (CutNo w) := by
  cases h : validB l
  all_goals
    rw [h] at hv
    have HV := Lib.hid h
    have HP : Hid ((true && withinB p n 65536) = false ∨ validB l = false) := by
      first | exact .inl hv | exact .inr h
    clear h hv
    go_enter Try.func13, Try.ntmps13
    go_wp2_with (first | (go_at_call 19; refine (valid_is _ _ _ _ _ HV.out hr hw).mono ?_; rintro e w' ⟨rfl, hb⟩) | (go_at_call 29; refine (within_is _ _ _ _ false (by rcases HP.out with h | h; exact (by simpa using h); exact absurd HV.out (by simp [h])) (by omega) (by omega) (by omega) (by omega)).mono ?_; rintro e w2 ⟨rfl, rfl⟩))
    go_ret3
    exact ⟨rfl, hb⟩
end Go.Proofs.Ytcalianponiioaa
