/-
  package extree: balance.
  package extree: join.
  Conditions: as each theorem says.
-/
import Derived.Test.YtpakjddfnhnndaaGreatFaA
import Derived.Deep.RegionHeld3
namespace Go.Proofs.YtpakjddfnhnndaaGreat
set_option linter.unusedSimpArgs false
set_option linter.unusedVariables false
set_option maxRecDepth 100000
open Go.RowKit

theorem Tr.ok_sub {t u : Tr} (h : t.ok) (hs : u.toL.Sublist t.toL) : u.ok := ⟨fun x hx => h.1 x (hs.subset hx), Nat.le_trans hs.length_le h.2⟩
theorem Tr.ok_same {t u : Tr} (h : t.ok) (hs : u.toL = t.toL) : u.ok := Tr.ok_sub h (by rw [hs]; exact List.Sublist.refl _)
set_option maxRecDepth 100000 in
set_option maxHeartbeats 4000000 in
theorem balance_tree (l r : Tr) (x : E) (vl vr : Value) (w : World) (hl : IsTr w vl l) (hr : IsTr w vr r) (hok : (Tr.node l x r).ok) :
    Calls Tryz.prog 158 #[vl, .agg #[.int .i64 x.a, .int .i64 x.n, .int .i64 x.s], vr] w (Grown w (l.toL ++ x :: r.toL)) := by
  obtain ⟨al, rfl⟩ := hl.form
  obtain ⟨ar, rfl⟩ := hr.form
  have hk := (Below.refl w.heap.size w).onAlloc (.cells #[.int .i64 x.a, .int .i64 x.n, .int .i64 x.s] 65)
  have HL := Lib.hid (IsTr.keep hk l hl)
  have HR := Lib.hid (IsTr.keep hk r hr)
  have HL0 := Lib.hid hl
  have HR0 := Lib.hid hr
  have hd1 := l.deep_le
  have hd2 := r.deep_le
  have hs := hok.2
  rw [Tr.size_node] at hs
  have HOK := Lib.hid hok
  obtain ⟨d1, e1⟩ : ∃ d, l.deep = d := ⟨_, rfl⟩
  obtain ⟨d2, e2⟩ : ∃ d, r.deep = d := ⟨_, rfl⟩
  rw [e1] at hd1
  rw [e2] at hd2
  have E1 := Lib.hid e1
  have E2 := Lib.hid e2
  have HK := Lib.hid hk
  clear hl hr hk hok e1 e2
  go_enter Tryz.func158, Tryz.ntmps158
  go_wp2_with fail
  refine (deep_is l d1 _ _ E1.out HL.out).mono ?_
  rintro e w1 ⟨rfl, hb1⟩
  go_wp2_with fail
  refine (deep_is r d2 _ _ E2.out (IsTr.keep hb1 r HR.out)).mono ?_
  rintro e w2 ⟨rfl, hb2⟩
  have hb3 := Below.trans hb1 (hb2.mono hb1.size)
  have y0 : w2.cell? ⟨w.heap.size, 0, none⟩ = some (.int .i64 x.a) := hb3.keep (by simp)
  have y1 : w2.cell? ⟨w.heap.size, 1, none⟩ = some (.int .i64 x.n) := hb3.keep (by simp)
  have y2 : w2.cell? ⟨w.heap.size, 2, none⟩ = some (.int .i64 x.s) := hb3.keep (by simp)
  have HB := Lib.hid (HK.out.on hb3)
  clear hb1 hb2 hb3
  go_wp2_with fail
  · cases l with
    | nil =>
      have := E1.out
      simp [Tr.deep] at this
      omega
    | node ll lx lr =>
      obtain ⟨b, vll, vlr, hv, hn, hll, hlr⟩ := IsTr.keep HB.out (Tr.node ll lx lr) HL0.out
      cases hv
      obtain ⟨all, rfl⟩ := hll.form
      obtain ⟨alr, rfl⟩ := hlr.form
      have z0 := hn.a
      have z1 := hn.n
      have z2 := hn.s
      have z3 := hn.l
      have z4 := hn.r
      have HLL := Lib.hid hll
      have HLR := Lib.hid hlr
      obtain ⟨g1, e1⟩ : ∃ d, ll.deep = d := ⟨_, rfl⟩
      obtain ⟨g2, e2⟩ : ∃ d, lr.deep = d := ⟨_, rfl⟩
      have G1 := Lib.hid e1
      have G2 := Lib.hid e2
      clear hn hll hlr e1 e2
      refine wp_region_next (by kernel_rfl) (by kernel_rfl) ?_
      repeat (go_big_quiet_step (first | (go_at_call_of 157 (Value.pointer all); exact Calls.next_of (deep_is ll g1 _ _ G1.out (IsTr.keep (World.below_next _ _) ll HLL.out))) | (go_at_call_of 157 (Value.pointer alr); exact Calls.next_of (deep_is lr g2 _ _ G2.out (IsTr.keep (World.below_next _ _) lr HLR.out)))))
      refine wpQuiet_nil ?_
      intro _ hw'
      obtain ⟨nq, hw''⟩ := hw'
      subst hw''
      have hq := World.below_next w2 nq
      have HB3 := Lib.hid (HB.out.on hq)
      have HLL := Lib.hid (IsTr.keep hq ll HLL.out)
      have HLR := Lib.hid (IsTr.keep hq lr HLR.out)
      have z0 := hq.keep z0
      have z1 := hq.keep z1
      have z2 := hq.keep z2
      have z3 := hq.keep z3
      have z4 := hq.keep z4
      have y0 := hq.keep y0
      have y1 := hq.keep y1
      have y2 := hq.keep y2
      clear hq
      generalize w2.next nq = w3 at *
      go_wp2_with fail
      · have hok1 : (Tr.node ll lx (.node lr x r)).ok := Tr.ok_same HOK.out (by simp [Tr.toL])
        have hok2 : (Tr.node lr x r).ok := Tr.ok_right hok1
        have hT1 := IsTr.keep (Below.refl w3.heap.size w3).drew ll HLL.out
        have hT2 := IsTr.keep (Below.refl w3.heap.size w3).drew lr HLR.out
        have hT3 := IsTr.keep HB3.out.drew r HR0.out
        have hB := HB3.out.drew
        have HI := Lib.hid (build_tree lr r x (.pointer alr) (.pointer ar) w3.drew hT2 hT3 hok2)
        have HT1 := Lib.hid hT1
        have HO1 := Lib.hid hok1
        have HBd := Lib.hid hB
        clear hok1 hok2 hT1 hT2 hT3 hB
        go_region_held3 (fun w' => w'.cell? ⟨b, 0, none⟩ = some (.int .i64 lx.a) ∧ w'.cell? ⟨b, 1, none⟩ = some (.int .i64 lx.n) ∧ w'.cell? ⟨b, 2, none⟩ = some (.int .i64 lx.s) ∧ w'.cell? ⟨b, 3, none⟩ = some (.pointer all) ∧ w'.cell? ⟨b, 4, none⟩ = some (.pointer alr) ∧ w'.cell? ⟨w.heap.size, 0, none⟩ = some (.int .i64 x.a) ∧ w'.cell? ⟨w.heap.size, 1, none⟩ = some (.int .i64 x.n) ∧ w'.cell? ⟨w.heap.size, 2, none⟩ = some (.int .i64 x.s))
          (first | exact ⟨z0, z1, z2, z3, z4, y0, y1, y2⟩ | exact ⟨hb4.keep z0, hb4.keep z1, hb4.keep z2, hb4.keep z3, hb4.keep z4, hb4.keep y0, hb4.keep y1, hb4.keep y2⟩ | exact ⟨hb5.keep (hb4.keep z0), hb5.keep (hb4.keep z1), hb5.keep (hb4.keep z2), hb5.keep (hb4.keep z3), hb5.keep (hb4.keep z4), hb5.keep (hb4.keep y0), hb5.keep (hb4.keep y1), hb5.keep (hb4.keep y2)⟩)
          (first
            | (go_at_call_of 159 (Value.pointer alr); refine HI.out.mono ?_; rintro e w4 ⟨v4, rfl, ht4, hb4⟩)
            | (go_at_call_of 159 (Value.pointer all); refine (build_tree ll (.node lr x r) lx (.pointer all) v4 w4 (IsTr.keep hb4 ll HT1.out) ht4 HO1.out).mono ?_; rintro e w5 ⟨v5, rfl, ht5, hb5⟩))
        go_wp2_with fail
        go_ret
        exact ⟨v5, _, rfl, ht5, by simp [Tr.toL], (HBd.out.on hb4).on hb5⟩
      · cases lr with
        | nil =>
          have := G2.out
          simp [Tr.deep] at this
          omega
        | node c y d =>
          obtain ⟨b2, vc, vd, hv2, hn2, hc, hd⟩ := HLR.out
          cases hv2
          obtain ⟨ac, rfl⟩ := hc.form
          obtain ⟨ad, rfl⟩ := hd.form
          have x0 := hn2.a
          have x1 := hn2.n
          have x2 := hn2.s
          have x3 := hn2.l
          have x4 := hn2.r
          have hok0 : (Tr.node (.node ll lx c) y (.node d x r)).ok := Tr.ok_same HOK.out (by simp [Tr.toL])
          have hok1 : (Tr.node ll lx c).ok := Tr.ok_left hok0
          have hok2 : (Tr.node d x r).ok := Tr.ok_right hok0
          have HT1 := Lib.hid (IsTr.keep (Below.refl w3.heap.size w3).drew ll HLL.out)
          have HT2 := Lib.hid (IsTr.keep (Below.refl w3.heap.size w3).drew c hc)
          have HT3 := Lib.hid (IsTr.keep (Below.refl w3.heap.size w3).drew d hd)
          have HT4 := Lib.hid (IsTr.keep HB3.out.drew r HR0.out)
          have HBd := Lib.hid HB3.out.drew
          have HO0 := Lib.hid hok0
          have HO1 := Lib.hid hok1
          have HO2 := Lib.hid hok2
          clear hok0 hok1 hok2 hn2 hc hd
          go_region_held3 (fun w' => w'.cell? ⟨b, 0, none⟩ = some (.int .i64 lx.a) ∧ w'.cell? ⟨b, 1, none⟩ = some (.int .i64 lx.n) ∧ w'.cell? ⟨b, 2, none⟩ = some (.int .i64 lx.s) ∧ w'.cell? ⟨b, 3, none⟩ = some (.pointer all) ∧ w'.cell? ⟨b2, 0, none⟩ = some (.int .i64 y.a) ∧ w'.cell? ⟨b2, 1, none⟩ = some (.int .i64 y.n) ∧ w'.cell? ⟨b2, 2, none⟩ = some (.int .i64 y.s) ∧ w'.cell? ⟨b2, 3, none⟩ = some (.pointer ac) ∧ w'.cell? ⟨b2, 4, none⟩ = some (.pointer ad) ∧ w'.cell? ⟨w.heap.size, 0, none⟩ = some (.int .i64 x.a) ∧ w'.cell? ⟨w.heap.size, 1, none⟩ = some (.int .i64 x.n) ∧ w'.cell? ⟨w.heap.size, 2, none⟩ = some (.int .i64 x.s))
            (first
              | exact ⟨z0, z1, z2, z3, x0, x1, x2, x3, x4, y0, y1, y2⟩
              | exact ⟨(hb4.keep z0), (hb4.keep z1), (hb4.keep z2), (hb4.keep z3), (hb4.keep x0), (hb4.keep x1), (hb4.keep x2), (hb4.keep x3), (hb4.keep x4), (hb4.keep y0), (hb4.keep y1), (hb4.keep y2)⟩
              | exact ⟨(hb5.keep (hb4.keep z0)), (hb5.keep (hb4.keep z1)), (hb5.keep (hb4.keep z2)), (hb5.keep (hb4.keep z3)), (hb5.keep (hb4.keep x0)), (hb5.keep (hb4.keep x1)), (hb5.keep (hb4.keep x2)), (hb5.keep (hb4.keep x3)), (hb5.keep (hb4.keep x4)), (hb5.keep (hb4.keep y0)), (hb5.keep (hb4.keep y1)), (hb5.keep (hb4.keep y2))⟩
              | exact ⟨(hb6.keep (hb5.keep (hb4.keep z0))), (hb6.keep (hb5.keep (hb4.keep z1))), (hb6.keep (hb5.keep (hb4.keep z2))), (hb6.keep (hb5.keep (hb4.keep z3))), (hb6.keep (hb5.keep (hb4.keep x0))), (hb6.keep (hb5.keep (hb4.keep x1))), (hb6.keep (hb5.keep (hb4.keep x2))), (hb6.keep (hb5.keep (hb4.keep x3))), (hb6.keep (hb5.keep (hb4.keep x4))), (hb6.keep (hb5.keep (hb4.keep y0))), (hb6.keep (hb5.keep (hb4.keep y1))), (hb6.keep (hb5.keep (hb4.keep y2)))⟩)
            (first
              | (go_at_call_of 159 (Value.pointer all); first | (refine (build_tree ll c lx (.pointer all) (.pointer ac) w3.drew HT1.out HT2.out HO1.out).mono ?_; rintro e w4 ⟨v4, rfl, ht4, hb4⟩) | (refine (build_tree ll c lx (.pointer all) (.pointer ac) w4 (IsTr.keep hb4 ll HT1.out) (IsTr.keep hb4 c HT2.out) HO1.out).mono ?_; rintro e w5 ⟨v5, rfl, ht5, hb5⟩))
              | (go_at_call_of 159 (Value.pointer ad); first | (refine (build_tree d r x (.pointer ad) (.pointer ar) w3.drew HT3.out HT4.out HO2.out).mono ?_; rintro e w4 ⟨v4, rfl, ht4, hb4⟩) | (refine (build_tree d r x (.pointer ad) (.pointer ar) w4 (IsTr.keep hb4 d HT3.out) (IsTr.keep hb4 r HT4.out) HO2.out).mono ?_; rintro e w5 ⟨v5, rfl, ht5, hb5⟩))
              | (go_at_call_of 159 v4; refine (build_tree (.node ll lx c) (.node d x r) y v4 v5 w5 (IsTr.keep hb5 _ ht4) ht5 HO0.out).mono ?_; rintro e w6 ⟨v6, rfl, ht6, hb6⟩)
              | (go_at_call_of 159 v5; refine (build_tree (.node ll lx c) (.node d x r) y v5 v4 w5 ht5 (IsTr.keep hb5 _ ht4) HO0.out).mono ?_; rintro e w6 ⟨v6, rfl, ht6, hb6⟩))
          all_goals
            go_wp2_with fail
            go_ret
            exact ⟨v6, _, rfl, ht6, by simp [Tr.toL], ((HBd.out.on hb4).on hb5).on hb6⟩
  · refine (deep_is r d2 _ _ E2.out (IsTr.keep HB.out r HR0.out)).mono ?_
    rintro e w1' ⟨rfl, hb1⟩
    have HBa := Lib.hid (HB.out.on hb1)
    have y0 := hb1.keep y0
    have y1 := hb1.keep y1
    have y2 := hb1.keep y2
    clear hb1
    go_wp2_with fail
    refine (deep_is l d1 _ _ E1.out (IsTr.keep HBa.out l HL0.out)).mono ?_
    rintro e w2' ⟨rfl, hb1⟩
    have HB := Lib.hid (HBa.out.on hb1)
    have y0 := hb1.keep y0
    have y1 := hb1.keep y1
    have y2 := hb1.keep y2
    clear hb1
    go_wp2_with fail
    · cases r with
      | nil =>
        have := E2.out
        simp [Tr.deep] at this
        omega
      | node rl rx rr =>
        obtain ⟨b, vrl, vrr, hv, hn, hrl, hrr⟩ := IsTr.keep HB.out (Tr.node rl rx rr) HR0.out
        cases hv
        obtain ⟨arl, rfl⟩ := hrl.form
        obtain ⟨arr, rfl⟩ := hrr.form
        have z0 := hn.a
        have z1 := hn.n
        have z2 := hn.s
        have z3 := hn.l
        have z4 := hn.r
        have HLL := Lib.hid hrl
        have HLR := Lib.hid hrr
        obtain ⟨g1, e1⟩ : ∃ d, rl.deep = d := ⟨_, rfl⟩
        obtain ⟨g2, e2⟩ : ∃ d, rr.deep = d := ⟨_, rfl⟩
        have G1 := Lib.hid e1
        have G2 := Lib.hid e2
        clear hn hrl hrr e1 e2
        refine wp_region_next (by kernel_rfl) (by kernel_rfl) ?_
        repeat (go_big_quiet_step (first | (go_at_call_of 157 (Value.pointer arl); exact Calls.next_of (deep_is rl g1 _ _ G1.out (IsTr.keep (World.below_next _ _) rl HLL.out))) | (go_at_call_of 157 (Value.pointer arr); exact Calls.next_of (deep_is rr g2 _ _ G2.out (IsTr.keep (World.below_next _ _) rr HLR.out)))))
        refine wpQuiet_nil ?_
        intro _ hw'
        obtain ⟨nq, hw''⟩ := hw'
        subst hw''
        have hq := World.below_next w2' nq
        have HB3 := Lib.hid (HB.out.on hq)
        have HLL := Lib.hid (IsTr.keep hq rl HLL.out)
        have HLR := Lib.hid (IsTr.keep hq rr HLR.out)
        have z0 := hq.keep z0
        have z1 := hq.keep z1
        have z2 := hq.keep z2
        have z3 := hq.keep z3
        have z4 := hq.keep z4
        have y0 := hq.keep y0
        have y1 := hq.keep y1
        have y2 := hq.keep y2
        clear hq
        generalize w2'.next nq = w3 at *
        go_wp2_with fail
        · have hok1 : (Tr.node (.node l x rl) rx rr).ok := Tr.ok_same HOK.out (by simp [Tr.toL])
          have hok2 : (Tr.node l x rl).ok := Tr.ok_left hok1
          have hT1 := IsTr.keep (Below.refl w3.heap.size w3).drew rl HLL.out
          have hT2 := IsTr.keep (Below.refl w3.heap.size w3).drew rr HLR.out
          have hT3 := IsTr.keep HB3.out.drew l HL0.out
          have hB := HB3.out.drew
          have HI := Lib.hid (build_tree l rl x (.pointer al) (.pointer arl) w3.drew hT3 hT1 hok2)
          have HT2 := Lib.hid hT2
          have HO1 := Lib.hid hok1
          have HBd := Lib.hid hB
          clear hok1 hok2 hT1 hT2 hT3 hB
          go_region_held3 (fun w' => w'.cell? ⟨b, 0, none⟩ = some (.int .i64 rx.a) ∧ w'.cell? ⟨b, 1, none⟩ = some (.int .i64 rx.n) ∧ w'.cell? ⟨b, 2, none⟩ = some (.int .i64 rx.s) ∧ w'.cell? ⟨b, 3, none⟩ = some (.pointer arl) ∧ w'.cell? ⟨b, 4, none⟩ = some (.pointer arr) ∧ w'.cell? ⟨w.heap.size, 0, none⟩ = some (.int .i64 x.a) ∧ w'.cell? ⟨w.heap.size, 1, none⟩ = some (.int .i64 x.n) ∧ w'.cell? ⟨w.heap.size, 2, none⟩ = some (.int .i64 x.s))
            (first
              | exact ⟨z0, z1, z2, z3, z4, y0, y1, y2⟩
              | exact ⟨(hb4.keep z0), (hb4.keep z1), (hb4.keep z2), (hb4.keep z3), (hb4.keep z4), (hb4.keep y0), (hb4.keep y1), (hb4.keep y2)⟩
              | exact ⟨(hb5.keep (hb4.keep z0)), (hb5.keep (hb4.keep z1)), (hb5.keep (hb4.keep z2)), (hb5.keep (hb4.keep z3)), (hb5.keep (hb4.keep z4)), (hb5.keep (hb4.keep y0)), (hb5.keep (hb4.keep y1)), (hb5.keep (hb4.keep y2))⟩)
            (first
              | (go_at_call_of 159 (Value.pointer al); refine HI.out.mono ?_; rintro e w4 ⟨v4, rfl, ht4, hb4⟩)
              | (go_at_call_of 159 v4; refine (build_tree (.node l x rl) rr rx v4 (.pointer arr) w4 ht4 (IsTr.keep hb4 rr HT2.out) HO1.out).mono ?_; rintro e w5 ⟨v5, rfl, ht5, hb5⟩))
          go_wp2_with fail
          go_ret
          exact ⟨v5, _, rfl, ht5, by simp [Tr.toL], (HBd.out.on hb4).on hb5⟩
        · cases rl with
          | nil =>
            have := G1.out
            simp [Tr.deep] at this
            omega
          | node c y d =>
            obtain ⟨b2, vc, vd, hv2, hn2, hc, hd⟩ := HLL.out
            cases hv2
            obtain ⟨ac, rfl⟩ := hc.form
            obtain ⟨ad, rfl⟩ := hd.form
            have x0 := hn2.a
            have x1 := hn2.n
            have x2 := hn2.s
            have x3 := hn2.l
            have x4 := hn2.r
            have hok0 : (Tr.node (.node l x c) y (.node d rx rr)).ok := Tr.ok_same HOK.out (by simp [Tr.toL])
            have hok1 : (Tr.node l x c).ok := Tr.ok_left hok0
            have hok2 : (Tr.node d rx rr).ok := Tr.ok_right hok0
            have HT1 := Lib.hid (IsTr.keep HB3.out.drew l HL0.out)
            have HT2 := Lib.hid (IsTr.keep (Below.refl w3.heap.size w3).drew c hc)
            have HT3 := Lib.hid (IsTr.keep (Below.refl w3.heap.size w3).drew d hd)
            have HT4 := Lib.hid (IsTr.keep (Below.refl w3.heap.size w3).drew rr HLR.out)
            have HBd := Lib.hid HB3.out.drew
            have HO0 := Lib.hid hok0
            have HO1 := Lib.hid hok1
            have HO2 := Lib.hid hok2
            clear hok0 hok1 hok2 hn2 hc hd
            go_region_held3 (fun w' => w'.cell? ⟨b, 0, none⟩ = some (.int .i64 rx.a) ∧ w'.cell? ⟨b, 1, none⟩ = some (.int .i64 rx.n) ∧ w'.cell? ⟨b, 2, none⟩ = some (.int .i64 rx.s) ∧ w'.cell? ⟨b, 4, none⟩ = some (.pointer arr) ∧ w'.cell? ⟨b2, 0, none⟩ = some (.int .i64 y.a) ∧ w'.cell? ⟨b2, 1, none⟩ = some (.int .i64 y.n) ∧ w'.cell? ⟨b2, 2, none⟩ = some (.int .i64 y.s) ∧ w'.cell? ⟨b2, 3, none⟩ = some (.pointer ac) ∧ w'.cell? ⟨b2, 4, none⟩ = some (.pointer ad) ∧ w'.cell? ⟨w.heap.size, 0, none⟩ = some (.int .i64 x.a) ∧ w'.cell? ⟨w.heap.size, 1, none⟩ = some (.int .i64 x.n) ∧ w'.cell? ⟨w.heap.size, 2, none⟩ = some (.int .i64 x.s))
              (first
                | exact ⟨z0, z1, z2, z4, x0, x1, x2, x3, x4, y0, y1, y2⟩
                | exact ⟨(hb4.keep z0), (hb4.keep z1), (hb4.keep z2), (hb4.keep z4), (hb4.keep x0), (hb4.keep x1), (hb4.keep x2), (hb4.keep x3), (hb4.keep x4), (hb4.keep y0), (hb4.keep y1), (hb4.keep y2)⟩
                | exact ⟨(hb5.keep (hb4.keep z0)), (hb5.keep (hb4.keep z1)), (hb5.keep (hb4.keep z2)), (hb5.keep (hb4.keep z4)), (hb5.keep (hb4.keep x0)), (hb5.keep (hb4.keep x1)), (hb5.keep (hb4.keep x2)), (hb5.keep (hb4.keep x3)), (hb5.keep (hb4.keep x4)), (hb5.keep (hb4.keep y0)), (hb5.keep (hb4.keep y1)), (hb5.keep (hb4.keep y2))⟩
                | exact ⟨(hb6.keep (hb5.keep (hb4.keep z0))), (hb6.keep (hb5.keep (hb4.keep z1))), (hb6.keep (hb5.keep (hb4.keep z2))), (hb6.keep (hb5.keep (hb4.keep z4))), (hb6.keep (hb5.keep (hb4.keep x0))), (hb6.keep (hb5.keep (hb4.keep x1))), (hb6.keep (hb5.keep (hb4.keep x2))), (hb6.keep (hb5.keep (hb4.keep x3))), (hb6.keep (hb5.keep (hb4.keep x4))), (hb6.keep (hb5.keep (hb4.keep y0))), (hb6.keep (hb5.keep (hb4.keep y1))), (hb6.keep (hb5.keep (hb4.keep y2)))⟩)
              (first
                | (go_at_call_of 159 (Value.pointer al); first | (refine (build_tree l c x (.pointer al) (.pointer ac) w3.drew HT1.out HT2.out HO1.out).mono ?_; rintro e w4 ⟨v4, rfl, ht4, hb4⟩) | (refine (build_tree l c x (.pointer al) (.pointer ac) w4 (IsTr.keep hb4 l HT1.out) (IsTr.keep hb4 c HT2.out) HO1.out).mono ?_; rintro e w5 ⟨v5, rfl, ht5, hb5⟩))
                | (go_at_call_of 159 (Value.pointer ad); first | (refine (build_tree d rr rx (.pointer ad) (.pointer arr) w3.drew HT3.out HT4.out HO2.out).mono ?_; rintro e w4 ⟨v4, rfl, ht4, hb4⟩) | (refine (build_tree d rr rx (.pointer ad) (.pointer arr) w4 (IsTr.keep hb4 d HT3.out) (IsTr.keep hb4 rr HT4.out) HO2.out).mono ?_; rintro e w5 ⟨v5, rfl, ht5, hb5⟩))
                | (go_at_call_of 159 v4; refine (build_tree (.node l x c) (.node d rx rr) y v4 v5 w5 (IsTr.keep hb5 _ ht4) ht5 HO0.out).mono ?_; rintro e w6 ⟨v6, rfl, ht6, hb6⟩)
                | (go_at_call_of 159 v5; refine (build_tree (.node l x c) (.node d rx rr) y v5 v4 w5 ht5 (IsTr.keep hb5 _ ht4) HO0.out).mono ?_; rintro e w6 ⟨v6, rfl, ht6, hb6⟩))
            all_goals
              go_wp2_with fail
              go_ret
              exact ⟨v6, _, rfl, ht6, by simp [Tr.toL], ((HBd.out.on hb4).on hb5).on hb6⟩
    · refine (build_tree l r x (.pointer al) (.pointer ar) _ (IsTr.keep HB.out l HL0.out) (IsTr.keep HB.out r HR0.out) HOK.out).mono ?_
      rintro e w4 ⟨v4, rfl, ht4, hb4⟩
      go_wp2_with fail
      go_ret
      exact ⟨v4, _, rfl, ht4, by simp [Tr.toL], HB.out.on hb4⟩
end Go.Proofs.YtpakjddfnhnndaaGreat

namespace Go.Proofs.YtpakjddfnhnndaaGreat
set_option linter.unusedSimpArgs false
set_option linter.unusedVariables false
set_option maxRecDepth 100000
open Go.RowKit

def Joins (l r : Tr) (x : E) : Prop := ∀ (vl vr : Value) (w : World), IsTr w vl l → IsTr w vr r → (Tr.node l x r).ok →
    Calls Tryz.prog 130 #[vl, .agg #[.int .i64 x.a, .int .i64 x.n, .int .i64 x.s], vr] w (Grown w (l.toL ++ x :: r.toL))
set_option maxRecDepth 100000 in
set_option maxHeartbeats 4000000 in
theorem join_step (l r : Tr) (x : E) (ih : ∀ l' r' x', l'.size + r'.size < l.size + r.size → Joins l' r' x') : Joins l r x := by
  intro vl vr w hl hr hok
  obtain ⟨al, rfl⟩ := hl.form
  obtain ⟨ar, rfl⟩ := hr.form
  have hk := (Below.refl w.heap.size w).onAlloc (.cells #[.int .i64 x.a, .int .i64 x.n, .int .i64 x.s] 65)
  have HL := Lib.hid (IsTr.keep hk l hl)
  have HR := Lib.hid (IsTr.keep hk r hr)
  have HL0 := Lib.hid hl
  have HR0 := Lib.hid hr
  have hd1 := l.deep_le
  have hd2 := r.deep_le
  have hs := hok.2
  rw [Tr.size_node] at hs
  have HOK := Lib.hid hok
  have IH := Lib.hid ih
  obtain ⟨d1, e1⟩ : ∃ d, l.deep = d := ⟨_, rfl⟩
  obtain ⟨d2, e2⟩ : ∃ d, r.deep = d := ⟨_, rfl⟩
  rw [e1] at hd1
  rw [e2] at hd2
  have E1 := Lib.hid e1
  have E2 := Lib.hid e2
  have HK := Lib.hid hk
  clear hl hr hk hok e1 e2 ih
  go_enter Tryz.func130, Tryz.ntmps130
  go_wp2_with fail
  refine (deep_is l d1 _ _ E1.out HL.out).mono ?_
  rintro e w1 ⟨rfl, hb1⟩
  go_wp2_with fail
  refine (deep_is r d2 _ _ E2.out (IsTr.keep hb1 r HR.out)).mono ?_
  rintro e w2 ⟨rfl, hb2⟩
  have hb3 := Below.trans hb1 (hb2.mono hb1.size)
  have y0 : w2.cell? ⟨w.heap.size, 0, none⟩ = some (.int .i64 x.a) := hb3.keep (by simp)
  have y1 : w2.cell? ⟨w.heap.size, 1, none⟩ = some (.int .i64 x.n) := hb3.keep (by simp)
  have y2 : w2.cell? ⟨w.heap.size, 2, none⟩ = some (.int .i64 x.s) := hb3.keep (by simp)
  have HB := Lib.hid (HK.out.on hb3)
  clear hb1 hb2 hb3
  go_wp2_with fail
  · cases l with
    | nil =>
      have := E1.out
      simp [Tr.deep] at this
      omega
    | node ll lx lr =>
      obtain ⟨b, vll, vlr, hv, hn, hll, hlr⟩ := IsTr.keep HB.out (Tr.node ll lx lr) HL0.out
      cases hv
      obtain ⟨all, rfl⟩ := hll.form
      obtain ⟨alr, rfl⟩ := hlr.form
      have z0 := hn.a
      have z1 := hn.n
      have z2 := hn.s
      have z3 := hn.l
      have z4 := hn.r
      have hz := Tr.size_node ll lr lx
      have hok1 : (Tr.node lr x r).ok := Tr.ok_right (l := ll) (x := lx) (Tr.ok_same HOK.out (by simp [Tr.toL]))
      have HI := Lib.hid (IH.out lr r x (by omega) (.pointer alr) (.pointer ar) w2.drew (IsTr.keep (Below.refl w2.heap.size w2).drew lr hlr) (IsTr.keep HB.out.drew r HR0.out) hok1)
      have HT1 := Lib.hid (IsTr.keep (Below.refl w2.heap.size w2).drew ll hll)
      have HBd := Lib.hid HB.out.drew
      clear hz hok1 hn hll hlr
      go_region_held3 (fun w' => w'.cell? ⟨b, 0, none⟩ = some (.int .i64 lx.a) ∧ w'.cell? ⟨b, 1, none⟩ = some (.int .i64 lx.n) ∧ w'.cell? ⟨b, 2, none⟩ = some (.int .i64 lx.s) ∧ w'.cell? ⟨b, 3, none⟩ = some (.pointer all) ∧ w'.cell? ⟨b, 4, none⟩ = some (.pointer alr) ∧ w'.cell? ⟨w.heap.size, 0, none⟩ = some (.int .i64 x.a) ∧ w'.cell? ⟨w.heap.size, 1, none⟩ = some (.int .i64 x.n) ∧ w'.cell? ⟨w.heap.size, 2, none⟩ = some (.int .i64 x.s))
        (first
          | exact ⟨z0, z1, z2, z3, z4, y0, y1, y2⟩
          | exact ⟨(hb4.keep z0), (hb4.keep z1), (hb4.keep z2), (hb4.keep z3), (hb4.keep z4), (hb4.keep y0), (hb4.keep y1), (hb4.keep y2)⟩
          | exact ⟨(hb5.keep (hb4.keep z0)), (hb5.keep (hb4.keep z1)), (hb5.keep (hb4.keep z2)), (hb5.keep (hb4.keep z3)), (hb5.keep (hb4.keep z4)), (hb5.keep (hb4.keep y0)), (hb5.keep (hb4.keep y1)), (hb5.keep (hb4.keep y2))⟩)
        (first
          | (go_at_call_of 130 (Value.pointer alr); refine HI.out.mono ?_; rintro e w4 ⟨v4, t4, rfl, ht4, hl4, hb4⟩)
          | (go_at_call_of 158 (Value.pointer all); refine (balance_tree ll t4 lx (.pointer all) v4 w4 (IsTr.keep hb4 ll HT1.out) ht4 (Tr.ok_same HOK.out (by simp [Tr.toL, hl4]))).mono ?_; rintro e w5 ⟨v5, t5, rfl, ht5, hl5, hb5⟩))
      go_wp2_with fail
      go_ret
      exact ⟨v5, t5, rfl, ht5, by rw [hl5, hl4]; simp [Tr.toL], (HBd.out.on hb4).on hb5⟩
  · refine (deep_is r d2 _ _ E2.out (IsTr.keep HB.out r HR0.out)).mono ?_
    rintro e w1' ⟨rfl, hb1⟩
    have HBa := Lib.hid (HB.out.on hb1)
    have y0 := hb1.keep y0
    have y1 := hb1.keep y1
    have y2 := hb1.keep y2
    clear hb1
    go_wp2_with fail
    refine (deep_is l d1 _ _ E1.out (IsTr.keep HBa.out l HL0.out)).mono ?_
    rintro e w2' ⟨rfl, hb1⟩
    have HB := Lib.hid (HBa.out.on hb1)
    have y0 := hb1.keep y0
    have y1 := hb1.keep y1
    have y2 := hb1.keep y2
    clear hb1
    go_wp2_with fail
    · cases r with
      | nil =>
        have := E2.out
        simp [Tr.deep] at this
        omega
      | node rl rx rr =>
        obtain ⟨b, vrl, vrr, hv, hn, hrl, hrr⟩ := IsTr.keep HB.out (Tr.node rl rx rr) HR0.out
        cases hv
        obtain ⟨arl, rfl⟩ := hrl.form
        obtain ⟨arr, rfl⟩ := hrr.form
        have z0 := hn.a
        have z1 := hn.n
        have z2 := hn.s
        have z3 := hn.l
        have z4 := hn.r
        have hz := Tr.size_node rl rr rx
        have hok1 : (Tr.node l x rl).ok := Tr.ok_left (r := rr) (x := rx) (Tr.ok_same HOK.out (by simp [Tr.toL]))
        have HI := Lib.hid (IH.out l rl x (by omega) (.pointer al) (.pointer arl) w2'.drew (IsTr.keep HB.out.drew l HL0.out) (IsTr.keep (Below.refl w2'.heap.size w2').drew rl hrl) hok1)
        have HT1 := Lib.hid (IsTr.keep (Below.refl w2'.heap.size w2').drew rr hrr)
        have HBd := Lib.hid HB.out.drew
        clear hz hok1 hn hrl hrr
        go_region_held3 (fun w' => w'.cell? ⟨b, 0, none⟩ = some (.int .i64 rx.a) ∧ w'.cell? ⟨b, 1, none⟩ = some (.int .i64 rx.n) ∧ w'.cell? ⟨b, 2, none⟩ = some (.int .i64 rx.s) ∧ w'.cell? ⟨b, 3, none⟩ = some (.pointer arl) ∧ w'.cell? ⟨b, 4, none⟩ = some (.pointer arr) ∧ w'.cell? ⟨w.heap.size, 0, none⟩ = some (.int .i64 x.a) ∧ w'.cell? ⟨w.heap.size, 1, none⟩ = some (.int .i64 x.n) ∧ w'.cell? ⟨w.heap.size, 2, none⟩ = some (.int .i64 x.s))
          (first
            | exact ⟨z0, z1, z2, z3, z4, y0, y1, y2⟩
            | exact ⟨(hb4.keep z0), (hb4.keep z1), (hb4.keep z2), (hb4.keep z3), (hb4.keep z4), (hb4.keep y0), (hb4.keep y1), (hb4.keep y2)⟩
            | exact ⟨(hb5.keep (hb4.keep z0)), (hb5.keep (hb4.keep z1)), (hb5.keep (hb4.keep z2)), (hb5.keep (hb4.keep z3)), (hb5.keep (hb4.keep z4)), (hb5.keep (hb4.keep y0)), (hb5.keep (hb4.keep y1)), (hb5.keep (hb4.keep y2))⟩)
          (first
            | (go_at_call_of 130 (Value.pointer al); refine HI.out.mono ?_; rintro e w4 ⟨v4, t4, rfl, ht4, hl4, hb4⟩)
            | (go_at_call_of 158 v4; refine (balance_tree t4 rr rx v4 (.pointer arr) w4 ht4 (IsTr.keep hb4 rr HT1.out) (Tr.ok_same HOK.out (by simp [Tr.toL, hl4]))).mono ?_; rintro e w5 ⟨v5, t5, rfl, ht5, hl5, hb5⟩))
        go_wp2_with fail
        go_ret
        exact ⟨v5, t5, rfl, ht5, by rw [hl5, hl4]; simp [Tr.toL], (HBd.out.on hb4).on hb5⟩
    · refine (build_tree l r x (.pointer al) (.pointer ar) _ (IsTr.keep HB.out l HL0.out) (IsTr.keep HB.out r HR0.out) HOK.out).mono ?_
      rintro e w4 ⟨v4, rfl, ht4, hb4⟩
      go_wp2_with fail
      go_ret
      exact ⟨v4, _, rfl, ht4, by simp [Tr.toL], HB.out.on hb4⟩
theorem join_tree (l r : Tr) (x : E) : Joins l r x := by
  have h : ∀ m l r x, l.size + r.size = m → Joins l r x := by
    intro m
    induction m using Nat.strongRecOn with
    | _ m ih => exact fun l r x hm => join_step l r x fun l' r' x' hlt => ih _ (by omega) l' r' x' rfl
  exact h _ l r x rfl
end Go.Proofs.YtpakjddfnhnndaaGreat
