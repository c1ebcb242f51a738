/-
  package extree: join.
  Conditions: as each theorem says.
-/
import Derived.Test.YtpakjddfnhnndaaGreatFaB
namespace Go.Proofs.YtpakjddfnhnndaaGreat
set_option linter.unusedSimpArgs false
set_option linter.unusedVariables false
set_option maxRecDepth 100000
open Go.RowKit

def Joins (l r : Tr) (x : E) : Prop := ∀ (vl vr : Value) (w : World), IsTr w vl l → IsTr w vr r → (Tr.node l x r).ok →
    Calls Tryz.prog 130 #[vl, .agg #[.int .i64 x.a, .int .i64 x.n, .int .i64 x.s], vr] w (Grown w (l.toL ++ x :: r.toL))
set_option maxRecDepth 100000 in
set_option maxHeartbeats 4000000 in
theorem join_step (l r : Tr) (x : E) (ih : ∀ l' r' x', l'.size + r'.size < l.size + r.size → Joins l' r' x') : Joins l r x := by
  intro vl vr w hl hr hok
  obtain ⟨al, rfl⟩ := hl.form
  obtain ⟨ar, rfl⟩ := hr.form
  have hk := (Below.refl w.heap.size w).onAlloc (.cells #[.int .i64 x.a, .int .i64 x.n, .int .i64 x.s] 65)
  have HL := Lib.hid (IsTr.keep hk l hl)
  have HR := Lib.hid (IsTr.keep hk r hr)
  have HL0 := Lib.hid hl
  have HR0 := Lib.hid hr
  have hd1 := l.deep_le
  have hd2 := r.deep_le
  have hs := hok.2
  rw [Tr.size_node] at hs
  have HOK := Lib.hid hok
  have IH := Lib.hid ih
  obtain ⟨d1, e1⟩ : ∃ d, l.deep = d := ⟨_, rfl⟩
  obtain ⟨d2, e2⟩ : ∃ d, r.deep = d := ⟨_, rfl⟩
  rw [e1] at hd1
  rw [e2] at hd2
  have E1 := Lib.hid e1
  have E2 := Lib.hid e2
  have HK := Lib.hid hk
  clear hl hr hk hok e1 e2 ih
  go_enter Tryz.func130, Tryz.ntmps130
  go_wp2_with fail
  refine (deep_is l d1 _ _ E1.out HL.out).mono ?_
  rintro e w1 ⟨rfl, hb1⟩
  go_wp2_with fail
  refine (deep_is r d2 _ _ E2.out (IsTr.keep hb1 r HR.out)).mono ?_
  rintro e w2 ⟨rfl, hb2⟩
  have hb3 := Below.trans hb1 (hb2.mono hb1.size)
  have y0 : w2.cell? ⟨w.heap.size, 0, none⟩ = some (.int .i64 x.a) := hb3.keep (by simp)
  have y1 : w2.cell? ⟨w.heap.size, 1, none⟩ = some (.int .i64 x.n) := hb3.keep (by simp)
  have y2 : w2.cell? ⟨w.heap.size, 2, none⟩ = some (.int .i64 x.s) := hb3.keep (by simp)
  have HB := Lib.hid (HK.out.on hb3)
  clear hb1 hb2 hb3
  go_wp2_with fail
  · cases l with
    | nil =>
      have := E1.out
      simp [Tr.deep] at this
      omega
    | node ll lx lr =>
      obtain ⟨b, vll, vlr, hv, hn, hll, hlr⟩ := IsTr.keep HB.out (Tr.node ll lx lr) HL0.out
      cases hv
      obtain ⟨all, rfl⟩ := hll.form
      obtain ⟨alr, rfl⟩ := hlr.form
      have z0 := hn.a
      have z1 := hn.n
      have z2 := hn.s
      have z3 := hn.l
      have z4 := hn.r
      have hz := Tr.size_node ll lr lx
      have hok1 : (Tr.node lr x r).ok := Tr.ok_right (l := ll) (x := lx) (Tr.ok_same HOK.out (by simp [Tr.toL]))
      have HI := Lib.hid (IH.out lr r x (by omega) (.pointer alr) (.pointer ar) w2.drew (IsTr.keep (Below.refl w2.heap.size w2).drew lr hlr) (IsTr.keep HB.out.drew r HR0.out) hok1)
      have HT1 := Lib.hid (IsTr.keep (Below.refl w2.heap.size w2).drew ll hll)
      have HBd := Lib.hid HB.out.drew
      clear hz hok1 hn hll hlr
      go_region_held3 (fun w' => w'.cell? ⟨b, 0, none⟩ = some (.int .i64 lx.a) ∧ w'.cell? ⟨b, 1, none⟩ = some (.int .i64 lx.n) ∧ w'.cell? ⟨b, 2, none⟩ = some (.int .i64 lx.s) ∧ w'.cell? ⟨b, 3, none⟩ = some (.pointer all) ∧ w'.cell? ⟨b, 4, none⟩ = some (.pointer alr) ∧ w'.cell? ⟨w.heap.size, 0, none⟩ = some (.int .i64 x.a) ∧ w'.cell? ⟨w.heap.size, 1, none⟩ = some (.int .i64 x.n) ∧ w'.cell? ⟨w.heap.size, 2, none⟩ = some (.int .i64 x.s))
        (first
          | exact ⟨z0, z1, z2, z3, z4, y0, y1, y2⟩
          | exact ⟨(hb4.keep z0), (hb4.keep z1), (hb4.keep z2), (hb4.keep z3), (hb4.keep z4), (hb4.keep y0), (hb4.keep y1), (hb4.keep y2)⟩
          | exact ⟨(hb5.keep (hb4.keep z0)), (hb5.keep (hb4.keep z1)), (hb5.keep (hb4.keep z2)), (hb5.keep (hb4.keep z3)), (hb5.keep (hb4.keep z4)), (hb5.keep (hb4.keep y0)), (hb5.keep (hb4.keep y1)), (hb5.keep (hb4.keep y2))⟩)
        (first
          | (go_at_call_of 130 (Value.pointer alr); refine HI.out.mono ?_; rintro e w4 ⟨v4, t4, rfl, ht4, hl4, hb4⟩)
          | (go_at_call_of 158 (Value.pointer all); refine (balance_tree ll t4 lx (.pointer all) v4 w4 (IsTr.keep hb4 ll HT1.out) ht4 (Tr.ok_same HOK.out (by simp [Tr.toL, hl4]))).mono ?_; rintro e w5 ⟨v5, t5, rfl, ht5, hl5, hb5⟩))
      go_wp2_with fail
      go_ret
      exact ⟨v5, t5, rfl, ht5, by rw [hl5, hl4]; simp [Tr.toL], (HBd.out.on hb4).on hb5⟩
  · refine (deep_is r d2 _ _ E2.out (IsTr.keep HB.out r HR0.out)).mono ?_
    rintro e w1' ⟨rfl, hb1⟩
    have HBa := Lib.hid (HB.out.on hb1)
    have y0 := hb1.keep y0
    have y1 := hb1.keep y1
    have y2 := hb1.keep y2
    clear hb1
    go_wp2_with fail
    refine (deep_is l d1 _ _ E1.out (IsTr.keep HBa.out l HL0.out)).mono ?_
    rintro e w2' ⟨rfl, hb1⟩
    have HB := Lib.hid (HBa.out.on hb1)
    have y0 := hb1.keep y0
    have y1 := hb1.keep y1
    have y2 := hb1.keep y2
    clear hb1
    go_wp2_with fail
    · cases r with
      | nil =>
        have := E2.out
        simp [Tr.deep] at this
        omega
      | node rl rx rr =>
        obtain ⟨b, vrl, vrr, hv, hn, hrl, hrr⟩ := IsTr.keep HB.out (Tr.node rl rx rr) HR0.out
        cases hv
        obtain ⟨arl, rfl⟩ := hrl.form
        obtain ⟨arr, rfl⟩ := hrr.form
        have z0 := hn.a
        have z1 := hn.n
        have z2 := hn.s
        have z3 := hn.l
        have z4 := hn.r
        have hz := Tr.size_node rl rr rx
        have hok1 : (Tr.node l x rl).ok := Tr.ok_left (r := rr) (x := rx) (Tr.ok_same HOK.out (by simp [Tr.toL]))
        have HI := Lib.hid (IH.out l rl x (by omega) (.pointer al) (.pointer arl) w2'.drew (IsTr.keep HB.out.drew l HL0.out) (IsTr.keep (Below.refl w2'.heap.size w2').drew rl hrl) hok1)
        have HT1 := Lib.hid (IsTr.keep (Below.refl w2'.heap.size w2').drew rr hrr)
        have HBd := Lib.hid HB.out.drew
        clear hz hok1 hn hrl hrr
        go_region_held3 (fun w' => w'.cell? ⟨b, 0, none⟩ = some (.int .i64 rx.a) ∧ w'.cell? ⟨b, 1, none⟩ = some (.int .i64 rx.n) ∧ w'.cell? ⟨b, 2, none⟩ = some (.int .i64 rx.s) ∧ w'.cell? ⟨b, 3, none⟩ = some (.pointer arl) ∧ w'.cell? ⟨b, 4, none⟩ = some (.pointer arr) ∧ w'.cell? ⟨w.heap.size, 0, none⟩ = some (.int .i64 x.a) ∧ w'.cell? ⟨w.heap.size, 1, none⟩ = some (.int .i64 x.n) ∧ w'.cell? ⟨w.heap.size, 2, none⟩ = some (.int .i64 x.s))
          (first
            | exact ⟨z0, z1, z2, z3, z4, y0, y1, y2⟩
            | exact ⟨(hb4.keep z0), (hb4.keep z1), (hb4.keep z2), (hb4.keep z3), (hb4.keep z4), (hb4.keep y0), (hb4.keep y1), (hb4.keep y2)⟩
            | exact ⟨(hb5.keep (hb4.keep z0)), (hb5.keep (hb4.keep z1)), (hb5.keep (hb4.keep z2)), (hb5.keep (hb4.keep z3)), (hb5.keep (hb4.keep z4)), (hb5.keep (hb4.keep y0)), (hb5.keep (hb4.keep y1)), (hb5.keep (hb4.keep y2))⟩)
          (first
            | (go_at_call_of 130 (Value.pointer al); refine HI.out.mono ?_; rintro e w4 ⟨v4, t4, rfl, ht4, hl4, hb4⟩)
            | (go_at_call_of 158 v4; refine (balance_tree t4 rr rx v4 (.pointer arr) w4 ht4 (IsTr.keep hb4 rr HT1.out) (Tr.ok_same HOK.out (by simp [Tr.toL, hl4]))).mono ?_; rintro e w5 ⟨v5, t5, rfl, ht5, hl5, hb5⟩))
        go_wp2_with fail
        go_ret
        exact ⟨v5, t5, rfl, ht5, by rw [hl5, hl4]; simp [Tr.toL], (HBd.out.on hb4).on hb5⟩
    · refine (build_tree l r x (.pointer al) (.pointer ar) _ (IsTr.keep HB.out l HL0.out) (IsTr.keep HB.out r HR0.out) HOK.out).mono ?_
      rintro e w4 ⟨v4, rfl, ht4, hb4⟩
      go_wp2_with fail
      go_ret
      exact ⟨v4, _, rfl, ht4, by simp [Tr.toL], HB.out.on hb4⟩
theorem join_tree (l r : Tr) (x : E) : Joins l r x := by
  have h : ∀ m l r x, l.size + r.size = m → Joins l r x := by
    intro m
    induction m using Nat.strongRecOn with
    | _ m ih => exact fun l r x hm => join_step l r x fun l' r' x' hlt => ih _ (by omega) l' r' x' rfl
  exact h _ l r x rfl
end Go.Proofs.YtpakjddfnhnndaaGreat
