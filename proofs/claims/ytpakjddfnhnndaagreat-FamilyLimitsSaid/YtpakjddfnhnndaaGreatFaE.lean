/-
  package extree: concat, split.
  Conditions: as each theorem says.
-/
import Derived.Test.YtpakjddfnhnndaaGreatFaD
namespace Go.Proofs.YtpakjddfnhnndaaGreat
set_option linter.unusedSimpArgs false
set_option linter.unusedVariables false
set_option maxRecDepth 100000
open Go.RowKit

set_option maxRecDepth 100000 in
set_option maxHeartbeats 4000000 in
theorem concat_tree (l r : Tr) (vl vr : Value) (w : World) (hl : IsTr w vl l) (hr : IsTr w vr r) (h1 : ∀ x ∈ l.toL ++ r.toL, okB x = true) (h2 : (l.toL ++ r.toL).length ≤ 1000000) :
    Calls Tryz.prog 133 #[vl, vr] w (Grown w (l.toL ++ r.toL)) := by
  obtain ⟨al, rfl⟩ := hl.form
  cases r with
  | nil =>
    obtain rfl : vr = .pointer none := hr
    go_enter Tryz.func133, Tryz.ntmps133
    go_wp2_with fail
    go_ret
    exact ⟨_, l, rfl, hl, by simp [Tr.toL], Below.refl _ _⟩
  | node rl ry rr =>
    obtain ⟨ar, rfl⟩ := hr.form
    have har : ar ≠ none := by
      obtain ⟨b2, _, _, hal, _⟩ := hr
      cases hal
      simp
    obtain ⟨p, rfl⟩ : ∃ p, ar = some p := by
      cases ar with
      | none => exact absurd rfl har
      | some p => exact ⟨p, rfl⟩
    obtain ⟨x1, L1, hL1⟩ : ∃ x1 L1, (Tr.node rl ry rr).toL = x1 :: L1 := by
      cases h : (Tr.node rl ry rr).toL with
      | nil => simp [Tr.toL] at h
      | cons a b => exact ⟨a, b, rfl⟩
    have HF := Lib.hid (first_tree (.node rl ry rr) (.pointer (some p)) w x1 L1 hL1 hr ⟨fun x hx => h1 x (by simp [hx]), by rw [List.length_append] at h2; show (Tr.node rl ry rr).toL.length ≤ _; omega⟩)
    have HL := Lib.hid hl
    have HL1 := Lib.hid hL1
    have H1 := Lib.hid h1
    have H2 := Lib.hid h2
    clear hl hr hL1 h1 h2 har
    go_enter Tryz.func133, Tryz.ntmps133
    go_wp2_with fail
    refine HF.out.mono ?_
    rintro e w1 ⟨v1, t1, rfl, ht1, hl1, hb1⟩
    have HB1 := Lib.hid hb1
    have HT1 := Lib.hid ht1
    have HM1 := Lib.hid hl1
    clear hb1 ht1 hl1
    go_wp2_with fail
    have hb2 : Below w.heap.size w (w1.alloc (.cells #[.int .i64 x1.a, .int .i64 x1.n, .int .i64 x1.s] 65)) := HB1.out.onAlloc _
    refine (join_tree l t1 x1 (.pointer al) v1 _ (IsTr.keep hb2 l HL.out) (IsTr.keep (by (repeat (first | exact Below.refl _ _ | assumption | refine Below.onNext ?_ _ | refine Below.onAlloc ?_ _ | refine Below.setCell ?_ (by simp) _ | refine Below.drew ?_))) t1 HT1.out) ⟨fun x hx => H1.out x (by rw [HL1.out]; simp only [Tr.toL, HM1.out] at hx; exact hx), by have := H2.out; rw [HL1.out] at this; show (l.toL ++ x1 :: t1.toL).length ≤ _; rw [HM1.out]; exact this⟩).mono ?_
    rintro e w2 ⟨v2, t2, rfl, ht2, hl2, hb3⟩
    have hb4 := hb2.on hb3
    clear hb3 hb2
    go_wp2_with fail
    go_ret
    exact ⟨v2, t2, rfl, ht2, by rw [hl2, HM1.out, HL1.out], hb4⟩

theorem ok_join {l r : Tr} {x : E} {A B : List E} (hA : l.toL = A) (hB : r.toL = B) (h : ∀ y ∈ A, okB y = true) (hx : okB x = true) (h' : ∀ y ∈ B, okB y = true) (hlen : A.length + 1 + B.length ≤ 1000000) : (Tr.node l x r).ok := by
  subst hA
  subst hB
  refine ⟨fun y hy => ?_, by rw [Tr.size_node]; exact hlen⟩
  simp only [Tr.toL, List.mem_append, List.mem_cons] at hy
  rcases hy with hy | rfl | hy
  · exact h y hy
  · exact hx
  · exact h' y hy
def SplitPost (w : World) (A B : List E) (e : Ending) (w' : World) : Prop :=
  ∃ va vb ta tb, e = .returned (.tuple #[va, vb]) ∧ IsTr w' va ta ∧ IsTr w' vb tb ∧ ta.toL = A ∧ tb.toL = B ∧ Below w.heap.size w w'
theorem okT_of {t : Tr} {L : List E} (h : t.ok) (he : t.toL = L) : (∀ x ∈ L, okB x = true) ∧ L.length ≤ 1000000 := by
  subst he
  exact h
set_option maxRecDepth 100000 in
set_option maxHeartbeats 4000000 in
theorem split_tree (p : Int) (hp0 : 0 ≤ p) (hp1 : p ≤ 131072) (t : Tr) : ∀ (v : Value) (w : World), IsTr w v t → t.ok → validB t.toL = true →
    Calls Tryz.prog 126 #[v, .int .i64 p] w (SplitPost w (partsL t.toL 0 p) (partsL t.toL p 65536)) := by
  induction t with
  | nil =>
    intro v w ht _ _
    obtain rfl : v = .pointer none := ht
    go_enter Tryz.func126, Tryz.ntmps126
    go_wp2_with fail
    (try simp only [Exit.inBlock, Exit.then])
    refine bodyPost_ret (results_tmp2 rfl _ _ _) rfl ?_
    exact ⟨_, _, .nil, .nil, rfl, rfl, rfl, rfl, rfl, Below.refl _ _⟩
  | node l x r ihl ihr =>
    intro v w ht hok hv
    obtain ⟨b, vl, vr, rfl, hn, hl, hr⟩ := ht
    obtain ⟨al, rfl⟩ := hl.form
    obtain ⟨ar, rfl⟩ := hr.form
    obtain ⟨c1, c2, c3, c4, c5⟩ := (okB_iff x).1 (Tr.ok_mid hok)
    have z0 := hn.a
    have z1 := hn.n
    have z2 := hn.s
    have z3 := hn.l
    have z4 := hn.r
    have HOK := Lib.hid hok
    have HV := Lib.hid (show validB (l.toL ++ x :: r.toL) = true from hv)
    have hk := (Below.refl w.heap.size w).onAlloc (.cells #[.int .i64 x.a, .int .i64 x.n, .int .i64 x.s] 65)
    have HK := Lib.hid hk
    have HL := Lib.hid hl
    have HR := Lib.hid hr
    have HIL := Lib.hid ihl
    have HIR := Lib.hid ihr
    clear hn hl hr hok hv hk ihl ihr
    by_cases h1 : p ≤ x.a
    · have HS := Lib.hid (split_left HV.out p h1)
      go_enter Tryz.func126, Tryz.ntmps126
      go_wp2_with fail
      refine (HIL.out (.pointer al) _ (IsTr.keep HK.out l HL.out) (Tr.ok_left HOK.out) (valid_mid HV.out).1).mono ?_
      rintro e w1 ⟨va, vb, ta, tb, rfl, hta, htb, hA, hB, hb1⟩
      have x0 : w1.cell? ⟨w.heap.size, 0, none⟩ = some (.int .i64 x.a) := hb1.keep (by simp)
      have x1 : w1.cell? ⟨w.heap.size, 1, none⟩ = some (.int .i64 x.n) := hb1.keep (by simp)
      have x2 : w1.cell? ⟨w.heap.size, 2, none⟩ = some (.int .i64 x.s) := hb1.keep (by simp)
      have hb2 := HK.out.on hb1
      have z4 := hb2.keep z4
      have hlen := Tr.size_node l r x
      have hok2 := HOK.out.2
      have hpl := partsL_length l.toL p 65536
      have hlsz : l.toL.length = l.size := rfl
      have HJ := Lib.hid (join_tree tb r x vb (.pointer ar) w1.drew (IsTr.keep (Below.refl _ _).drew tb htb) (IsTr.keep hb2.drew r HR.out) (ok_join hB rfl (partsL_ok l.toL _ _ (Tr.ok_left HOK.out).1) (Tr.ok_mid HOK.out) (Tr.ok_right HOK.out).1 (by show _ + 1 + r.size ≤ _; omega)))
      have HA := Lib.hid hA
      have HTA := Lib.hid (IsTr.keep (Below.refl _ _).drew ta hta)
      have HB2 := Lib.hid hb2.drew
      have HBB := Lib.hid hB
      clear hb1 hb2 hlen hok2 hpl hlsz hA hB hta htb
      go_wp2_with fail
      go_region_held3 (fun w' => w'.cell? ⟨b, 4, none⟩ = some (.pointer ar) ∧ w'.cell? ⟨w.heap.size, 0, none⟩ = some (.int .i64 x.a) ∧ w'.cell? ⟨w.heap.size, 1, none⟩ = some (.int .i64 x.n) ∧ w'.cell? ⟨w.heap.size, 2, none⟩ = some (.int .i64 x.s))
        (first
          | exact ⟨z4, x0, x1, x2⟩
          | exact ⟨hb4.keep z4, hb4.keep x0, hb4.keep x1, hb4.keep x2⟩)
        ((go_at_call 130; refine HJ.out.mono ?_; rintro e w4 ⟨v4, t4, rfl, ht4, hl4, hb4⟩))
      go_wp2_with fail
      (try simp only [Exit.inBlock, Exit.then])
      refine bodyPost_ret (results_tmp2 rfl _ _ _) rfl ?_
      exact ⟨_, _, ta, t4, rfl, IsTr.keep hb4 ta HTA.out, ht4, by rw [HA.out]; exact HS.out.1.symm, by rw [hl4, HBB.out]; exact HS.out.2.symm, HB2.out.on hb4⟩
    · by_cases h2 : x.a + x.n ≤ p
      · have HS := Lib.hid (split_right HV.out p h2)
        go_enter Tryz.func126, Tryz.ntmps126
        go_wp2_with fail
        refine (HIR.out (.pointer ar) _ (IsTr.keep HK.out r HR.out) (Tr.ok_right HOK.out) (valid_mid HV.out).2.2.1).mono ?_
        rintro e w1 ⟨va, vb, ta, tb, rfl, hta, htb, hA, hB, hb1⟩
        have x0 : w1.cell? ⟨w.heap.size, 0, none⟩ = some (.int .i64 x.a) := hb1.keep (by simp)
        have x1 : w1.cell? ⟨w.heap.size, 1, none⟩ = some (.int .i64 x.n) := hb1.keep (by simp)
        have x2 : w1.cell? ⟨w.heap.size, 2, none⟩ = some (.int .i64 x.s) := hb1.keep (by simp)
        have hb2 := HK.out.on hb1
        have z3 := hb2.keep z3
        have hlen := Tr.size_node l r x
        have hok2 := HOK.out.2
        have hpl := partsL_length r.toL 0 p
        have hlsz : r.toL.length = r.size := rfl
        have HJ := Lib.hid (join_tree l ta x (.pointer al) va w1.drew (IsTr.keep hb2.drew l HL.out) (IsTr.keep (Below.refl _ _).drew ta hta) (ok_join rfl hA (Tr.ok_left HOK.out).1 (Tr.ok_mid HOK.out) (partsL_ok r.toL _ _ (Tr.ok_right HOK.out).1) (by show l.size + 1 + _ ≤ _; omega)))
        have HA := Lib.hid hA
        have HTB := Lib.hid (IsTr.keep (Below.refl _ _).drew tb htb)
        have HB2 := Lib.hid hb2.drew
        have HBB := Lib.hid hB
        clear hb1 hb2 hlen hok2 hpl hlsz hA hB hta htb
        go_wp2_with fail
        go_region_held3 (fun w' => w'.cell? ⟨b, 3, none⟩ = some (.pointer al) ∧ w'.cell? ⟨w.heap.size, 0, none⟩ = some (.int .i64 x.a) ∧ w'.cell? ⟨w.heap.size, 1, none⟩ = some (.int .i64 x.n) ∧ w'.cell? ⟨w.heap.size, 2, none⟩ = some (.int .i64 x.s))
          (first
            | exact ⟨z3, x0, x1, x2⟩
            | exact ⟨hb4.keep z3, hb4.keep x0, hb4.keep x1, hb4.keep x2⟩)
          ((go_at_call 130; refine HJ.out.mono ?_; rintro e w4 ⟨v4, t4, rfl, ht4, hl4, hb4⟩))
        go_wp2_with fail
        (try simp only [Exit.inBlock, Exit.then])
        refine bodyPost_ret (results_tmp2 rfl _ _ _) rfl ?_
        exact ⟨_, _, t4, tb, rfl, ht4, IsTr.keep hb4 tb HTB.out, by rw [hl4, HA.out]; exact HS.out.1.symm, by rw [HBB.out]; exact HS.out.2.symm, HB2.out.on hb4⟩
      · have HS := Lib.hid (split_mid HV.out p (by omega) (by omega))
        go_enter Tryz.func126, Tryz.ntmps126
        go_wp2_with fail
        go_region
        have hb1 : Below w.heap.size w ((w.alloc (.cells #[.int .i64 x.a, .int .i64 x.n, .int .i64 x.s] 65)).alloc (.cells #[.int .i64 x.a, .int .i64 (p - x.a), .int .i64 x.s] 65)).drew := by (repeat (first | exact Below.refl _ _ | assumption | refine Below.onNext ?_ _ | refine Below.onAlloc ?_ _ | refine Below.setCell ?_ (by simp) _ | refine Below.drew ?_))
        have z0 := hb1.keep z0
        have z1 := hb1.keep z1
        have z2 := hb1.keep z2
        have z3 := hb1.keep z3
        have z4 := hb1.keep z4
        have g0 : (((w.alloc (.cells #[.int .i64 x.a, .int .i64 x.n, .int .i64 x.s] 65)).alloc (.cells #[.int .i64 x.a, .int .i64 (p - x.a), .int .i64 x.s] 65)).drew).cell? ⟨w.heap.size + 1, 0, none⟩ = some (.int .i64 x.a) := by simp
        have g1 : (((w.alloc (.cells #[.int .i64 x.a, .int .i64 x.n, .int .i64 x.s] 65)).alloc (.cells #[.int .i64 x.a, .int .i64 (p - x.a), .int .i64 x.s] 65)).drew).cell? ⟨w.heap.size + 1, 1, none⟩ = some (.int .i64 (p - x.a)) := by simp
        have g2 : (((w.alloc (.cells #[.int .i64 x.a, .int .i64 x.n, .int .i64 x.s] 65)).alloc (.cells #[.int .i64 x.a, .int .i64 (p - x.a), .int .i64 x.s] 65)).drew).cell? ⟨w.heap.size + 1, 2, none⟩ = some (.int .i64 x.s) := by simp
        generalize ((w.alloc (.cells #[.int .i64 x.a, .int .i64 x.n, .int .i64 x.s] 65)).alloc (.cells #[.int .i64 x.a, .int .i64 (p - x.a), .int .i64 x.s] 65)).drew = w1 at *
        go_wp2_with fail
        go_region
        have hb2 : Below w1.heap.size w1 (w1.alloc (.cells #[.int .i64 p, .int .i64 (x.n - (p - x.a)), .int .i64 (x.s + (p - x.a))] 65)).drew := by (repeat (first | exact Below.refl _ _ | assumption | refine Below.onNext ?_ _ | refine Below.onAlloc ?_ _ | refine Below.setCell ?_ (by simp) _ | refine Below.drew ?_))
        have z3 := hb2.keep z3
        have z4 := hb2.keep z4
        have g0 := hb2.keep g0
        have g1 := hb2.keep g1
        have g2 := hb2.keep g2
        have j0 : ((w1.alloc (.cells #[.int .i64 p, .int .i64 (x.n - (p - x.a)), .int .i64 (x.s + (p - x.a))] 65)).drew).cell? ⟨w1.heap.size, 0, none⟩ = some (.int .i64 p) := by simp
        have j1 : ((w1.alloc (.cells #[.int .i64 p, .int .i64 (x.n - (p - x.a)), .int .i64 (x.s + (p - x.a))] 65)).drew).cell? ⟨w1.heap.size, 1, none⟩ = some (.int .i64 (x.n - (p - x.a))) := by simp
        have j2 : ((w1.alloc (.cells #[.int .i64 p, .int .i64 (x.n - (p - x.a)), .int .i64 (x.s + (p - x.a))] 65)).drew).cell? ⟨w1.heap.size, 2, none⟩ = some (.int .i64 (x.s + (p - x.a))) := by simp
        have hb3 := hb1.on hb2
        generalize (w1.alloc (.cells #[.int .i64 p, .int .i64 (x.n - (p - x.a)), .int .i64 (x.s + (p - x.a))] 65)).drew = w2 at *
        go_wp2_with fail
        have hlen := Tr.size_node l r x
        have hok2 := HOK.out.2
        have HJ1 := Lib.hid (fun w' (hb : Below w2.heap.size w2 w') => join_tree l .nil ⟨x.a, p - x.a, x.s⟩ (.pointer al) (.pointer none) w' (IsTr.keep (hb3.on hb) l HL.out) rfl (ok_join rfl rfl (Tr.ok_left HOK.out).1 ((okB_iff _).2 (by simp only; omega)) (by simp [Tr.toL]) (by show l.size + 1 + 0 ≤ _; omega)))
        have HJ2 := Lib.hid (fun w' (hb : Below w2.heap.size w2 w') => join_tree .nil r ⟨p, x.n - (p - x.a), x.s + (p - x.a)⟩ (.pointer none) (.pointer ar) w' rfl (IsTr.keep (hb3.on hb) r HR.out) (ok_join rfl rfl (by simp [Tr.toL]) ((okB_iff _).2 (by simp only; omega)) (Tr.ok_right HOK.out).1 (by show 0 + 1 + r.size ≤ _; omega)))
        have HB3 := Lib.hid hb3
        clear hb1 hb2 hb3 hlen hok2 z0 z1 z2
        go_region_held3 (fun w' => w'.cell? ⟨b, 3, none⟩ = some (.pointer al) ∧ w'.cell? ⟨b, 4, none⟩ = some (.pointer ar) ∧ w'.cell? ⟨w.heap.size + 1, 0, none⟩ = some (.int .i64 x.a) ∧ w'.cell? ⟨w.heap.size + 1, 1, none⟩ = some (.int .i64 (p - x.a)) ∧ w'.cell? ⟨w.heap.size + 1, 2, none⟩ = some (.int .i64 x.s) ∧ w'.cell? ⟨w1.heap.size, 0, none⟩ = some (.int .i64 p) ∧ w'.cell? ⟨w1.heap.size, 1, none⟩ = some (.int .i64 (x.n - (p - x.a))) ∧ w'.cell? ⟨w1.heap.size, 2, none⟩ = some (.int .i64 (x.s + (p - x.a))))
          (first
            | exact ⟨z3, z4, g0, g1, g2, j0, j1, j2⟩
            | exact ⟨hb4.keep z3, hb4.keep z4, hb4.keep g0, hb4.keep g1, hb4.keep g2, hb4.keep j0, hb4.keep j1, hb4.keep j2⟩
            | exact ⟨hb5.keep (hb4.keep z3), hb5.keep (hb4.keep z4), hb5.keep (hb4.keep g0), hb5.keep (hb4.keep g1), hb5.keep (hb4.keep g2), hb5.keep (hb4.keep j0), hb5.keep (hb4.keep j1), hb5.keep (hb4.keep j2)⟩)
          (first
            | (go_at_call_of 130 (Value.pointer al); first | (refine (HJ1.out w2.drew (Below.refl _ _).drew).mono ?_; rintro e w4 ⟨v4, t4, rfl, ht4, hl4, hb4⟩) | (refine (HJ1.out w4 ((Below.refl w2.heap.size w2).drew.on hb4)).mono ?_; rintro e w5 ⟨v5, t5, rfl, ht5, hl5, hb5⟩))
            | (go_at_call_of 130 (Value.pointer none); first | (refine (HJ2.out w2.drew (Below.refl _ _).drew).mono ?_; rintro e w4 ⟨v4, t4, rfl, ht4, hl4, hb4⟩) | (refine (HJ2.out w4 ((Below.refl w2.heap.size w2).drew.on hb4)).mono ?_; rintro e w5 ⟨v5, t5, rfl, ht5, hl5, hb5⟩)))
        · go_wp2_with fail
          (try simp only [Exit.inBlock, Exit.then])
          refine bodyPost_ret (results_tmp2 rfl _ _ _) rfl ?_
          exact ⟨_, _, t4, t5, rfl, IsTr.keep hb5 t4 ht4, ht5, by rw [hl4]; exact HS.out.1.symm, by rw [hl5]; exact HS.out.2.symm, (HB3.out.drew.on hb4).on hb5⟩
end Go.Proofs.YtpakjddfnhnndaaGreat
