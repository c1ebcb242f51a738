/-
  The specification's Runs.
  Conditions: as each theorem says.
-/
import Derived.Test.YtpakjddfnhnndaaGreatGC
import Derived.Test.YtpakjddfnhnndaaGreatGA
namespace Go.Proofs.YtpakjddfnhnndaaGreat
set_option linter.unusedSimpArgs false
set_option linter.unusedVariables false
set_option maxRecDepth 100000
open Go.RowKit

theorem below_bounds {l R : List E} {e next : Int} {found : Bool} (h : Below_ l R e) (hl : ∀ x ∈ l, okB x = true → True) (hf : Least l e next found) (h0 : found = false → next = 0) : 0 ≤ next ∧ next ≤ 65536 := by
  cases found with
  | false => have := h0 rfl; omega
  | true =>
    have := least_bounds h hf
    have := h.e0
    omega
theorem least_upper {l : List E} {e next : Int} (he : 0 ≤ e ∧ e ≤ 65536) (hf : Least l e next true) : 0 ≤ next ∧ next ≤ 65536 := by
  rcases hf with ⟨hf, _⟩ | ⟨_, ⟨x, hx, h1, h2, h3⟩, _⟩
  · cases hf
  · have := (okB_iff x).1 h1
    omega
theorem greatest_upper {l : List E} {next t : Int} (he : 0 ≤ next ∧ next ≤ 65536) (hg : Greatest l next t) : 0 ≤ t ∧ t ≤ 65536 := by
  obtain ⟨g1, g2 | ⟨x, hx, h1, h2, h3⟩, _⟩ := hg
  · omega
  · have := (okB_iff x).1 h1
    omega
theorem cellsL_setn (C : List E) (y : E) (m : Int) : (cellsL (C ++ [y])).set (C.length * 3 + 1) (.int .i64 m) = cellsL (C ++ [⟨y.a, m, y.s⟩]) := by
  have hk : (cellsL C).length = C.length * 3 := cellsL_length C
  rw [cellsL_append, cellsL_append, List.set_append_right _ _ (by rw [hk]; omega), hk, show C.length * 3 + 1 - C.length * 3 = 1 by omega]
  rfl
theorem OwnE.setn {w : World} {B g c n : Nat} {C : List E} {y : E} (hn : n = C.length + 1) (h : OwnE w B (.slice (some ⟨g, 0, none⟩) n c) (C ++ [y])) (m : Int) :
    OwnE (w.setCell ⟨g, C.length * 3 + 1, none⟩ (.int .i64 m)) B (.slice (some ⟨g, 0, none⟩) n c) (C ++ [⟨y.a, m, y.s⟩]) ∧ w.grownBy (w.setCell ⟨g, C.length * 3 + 1, none⟩ (.int .i64 m)) (some g) := by
  subst hn
  unfold OwnE at h ⊢
  rw [show (C ++ [y]).length = C.length + 1 by simp] at h
  have hst := World.ownsRow.stored h (C.length * 3 + 1) (.int .i64 m)
  rw [cellsL_setn] at hst
  refine ⟨?_, hst.2⟩
  rw [show (C ++ [(⟨y.a, m, y.s⟩ : E)]).length = C.length + 1 by simp]
  exact hst.1

set_option maxRecDepth 100000 in
set_option maxHeartbeats 4000000 in
theorem rruns_any (l : List E) (a : Option Addr) (c : Nat) (w : World) (hr : Rd w a l) (hw : wfL l) :
    Calls Tryz.prog 154 #[.slice a l.length c] w fun e w' => ∃ v, e = .returned v ∧ OwnE w' w.heap.size v (runsL l) ∧ Below w.heap.size w w' := by
  have hlen := hr.1
  obtain ⟨i0, hi, hz0, hz1, hz2⟩ := info_parts infoE
  go_enter Tryz.func154, Tryz.ntmps154
  go_wp2_with fail
  go_loopw [3, 4] (fun v e wr => ∃ (R : List E) (en : Int), e = .int .i64 en ∧ Below_ l R en ∧ OwnE wr w.heap.size v R ∧ Below w.heap.size w wr) (fun _ e _ => (65536 - (match e with | .int _ n => n | _ => 0)).toNat)
  case atStart => exact ⟨[], 0, rfl, below_nil l, OwnE.nil _ _, Below.refl _ _⟩
  case round =>
    obtain ⟨R, en, rfl, hbl, ho, hB⟩ := hrel
    have he0 := hbl.e0
    have he1 := hbl.e1
    have HBL := Lib.hid hbl
    have HR := Lib.hid ho
    clear hbl ho
    go_wp2_with fail
    go_loopw [5, 6, 7] (fun nx fd i wr2 => ∃ (k : Nat) (next : Int) (found : Bool), k ≤ l.length ∧ i = .int .i64 k ∧ nx = .int .i64 next ∧ fd = .bool found ∧ Least (l.take k) en next found ∧ (found = false → next = 0) ∧ Below wr.heap.size wr wr2) (fun _ _ i _ => l.length - (intOf i).toNat)
    case atStart => exact ⟨0, 0, false, Nat.zero_le _, rfl, rfl, rfl, least_nil en, fun _ => rfl, Below.refl _ _⟩
    case round =>
      obtain ⟨k, next, found, hk, rfl, rfl, rfl, hL, hf0, hB2⟩ := hrel
      have hBw := hB.on hB2
      have hnb : 0 ≤ next ∧ next ≤ 65536 := by
        cases found with
        | false => rw [hf0 rfl]; omega
        | true => exact least_upper ⟨he0, he1⟩ hL
      obtain ⟨hn0, hn1⟩ := hnb
      have HF0 := Lib.hid hf0
      by_cases hlt : k < l.length
      · obtain ⟨b, o, rfl, hat⟩ := (hr.keep hBw).at (by omega)
        obtain ⟨h1, h2, h3⟩ := hat k _ (List.getElem?_eq_getElem hlt)
        have HS : Hid (okB l[k] = false ∨ l[k].s + l[k].n ≤ en → Least (l.take (k + 1)) en next found) := Lib.hid (least_skip hlt hL)
        have HT : Hid (okB l[k] = true → en < l[k].s + l[k].n → (found = false ∨ max l[k].s en < next) → Least (l.take (k + 1)) en (max l[k].s en) true) := Lib.hid (least_take hlt hL)
        have HU : Hid (found = true → next ≤ max l[k].s en → Least (l.take (k + 1)) en next found) := Lib.hid (fun e h => by subst e; exact least_stay hlt hL h)
        generalize l[k] = x at *
        clear hat hr hL hf0
        cases hp : okB x
        · have HP := Lib.hid hp
          clear hp
          go_wp2_with fail
          refine wp_region_next (by kernel_rfl) (by kernel_rfl) ?_
          repeat (go_big_quiet_step ((go_at_call 150; exact Calls.next_of (one_is _ _ _ _ _ HP.out))))
          refine wpQuiet_nil ?_
          intro _ hw'
          obtain ⟨nq, hw''⟩ := hw'
          subst hw''
          go_wp2_with fail
          go_roundw
          case rel => exact ⟨k + 1, next, found, by omega, by go_num, rfl, rfl, HS.out (.inl HP.out), HF0.out, hB2.onNext _⟩
          case measure => simp [intOf]; omega
        · obtain ⟨c1, c2, c3, c4, c5⟩ := (okB_iff x).1 hp
          have HP := Lib.hid hp
          clear hp
          by_cases hle : x.s + x.n ≤ en
          · have hd : decide (x.s + x.n ≤ en) = true := decide_eq_true hle
            go_wp2_with fail
            refine wp_region_next (by kernel_rfl) (by kernel_rfl) ?_
            repeat (go_big_quiet_step ((go_at_call 150; exact Calls.next_of (one_is _ _ _ _ _ HP.out))))
            refine wpQuiet_nil ?_
            intro _ hw'
            obtain ⟨nq, hw''⟩ := hw'
            subst hw''
            go_wp2_with fail
            go_roundw
            case rel => exact ⟨k + 1, next, found, by omega, by go_num, rfl, rfl, HS.out (.inr hle), HF0.out, hB2.onNext _⟩
            case measure => simp [intOf]; omega
          · have hd : decide (x.s + x.n ≤ en) = false := decide_eq_false hle
            go_wp2_with fail
            refine wp_region_next (by kernel_rfl) (by kernel_rfl) ?_
            repeat (go_big_quiet_step ((go_at_call 150; exact Calls.next_of (one_is _ _ _ _ _ HP.out))))
            refine wpQuiet_nil ?_
            intro _ hw'
            obtain ⟨nq, hw''⟩ := hw'
            subst hw''
            have hB3 := hB2.onNext nq
            have h3 := (World.below_next wr nq).keep h3
            generalize wr.next nq = wr3 at *
            go_wp2_with fail
            all_goals have hM : (if x.s < en then en else x.s) = max x.s en := by split <;> omega
            · rename_i hf hs2
              have hs3 : max x.s en < next := by first | omega | (split at hs2 <;> omega)
              have hd3 := Lib.hid (HT.out HP.out hle (.inr hs3))
              have hM2 := Lib.hid hM
              clear hM hs2 hs3 hf
              go_roundw
              case rel => exact ⟨k + 1, max x.s en, true, by omega, by go_num, congrArg _ hM2.out, rfl, hd3.out, (fun h => by cases h), hB3⟩
              case measure => simp [intOf]; omega
            · rename_i hf hs2
              have hs3 : next ≤ max x.s en := by first | omega | (split at hs2 <;> omega)
              have hd3 := Lib.hid (HU.out hf hs3)
              rw [hf] at hd3
              clear hM hs2 hs3
              go_roundw
              case rel => exact ⟨k + 1, next, true, by omega, by go_num, rfl, rfl, hd3.out, (fun h => by cases h), hB3⟩
              case measure => simp [intOf]; omega
            · rename_i hf
              have hf2 : found = false := by simpa using hf
              have hd3 := Lib.hid (HT.out HP.out hle (.inl hf2))
              have hM2 := Lib.hid hM
              clear hM hf hf2
              go_roundw
              case rel => exact ⟨k + 1, max x.s en, true, by omega, by go_num, congrArg _ hM2.out, rfl, hd3.out, (fun h => by cases h), hB3⟩
              case measure => simp [intOf]; omega
      · rw [List.take_of_length_le (by omega)] at hL
        have HL := Lib.hid hL
        cases found
        · have HE := Lib.hid (below_end HBL.out HL.out)
          have HR2 := Lib.hid (HR.out.keep hB2)
          clear hL hf0 HF0
          go_wp2_with fail
          go_ret
          exact ⟨_, rfl, by rw [← HE.out]; exact HR2.out, hBw⟩
        · obtain ⟨l1, l2⟩ := least_bounds HBL.out HL.out
          have HR2 := Lib.hid (HR.out.keep hB2)
          clear hL hf0 HF0 HR hB hB2
          go_wp2_with fail
          go_loopw [4, 9] (fun e i wr3 => ∃ (k : Nat) (t : Int), k ≤ l.length ∧ i = .int .i64 k ∧ e = .int .i64 t ∧ Greatest (l.take k) next t ∧ Below wr.heap.size wr wr3) (fun _ i _ => l.length - (intOf i).toNat)
          case atStart => exact ⟨0, next, Nat.zero_le _, rfl, rfl, greatest_nil next, Below.refl _ _⟩
          case round =>
            obtain ⟨k, t, hk, rfl, rfl, hG, hB3⟩ := hrel
            have hBw3 := hBw.on hB3
            obtain ⟨t0, t1⟩ := greatest_upper ⟨hn0, hn1⟩ hG
            by_cases hlt : k < l.length
            · obtain ⟨b, o, rfl, hat⟩ := (hr.keep hBw3).at (by omega)
              obtain ⟨h1, h2, h3⟩ := hat k _ (List.getElem?_eq_getElem hlt)
              have HS : Hid (okB l[k] = false ∨ next < l[k].s ∨ l[k].s + l[k].n ≤ t → Greatest (l.take (k + 1)) next t) := Lib.hid (greatest_skip hlt hG)
              have HT : Hid (okB l[k] = true → l[k].s ≤ next → t < l[k].s + l[k].n → Greatest (l.take (k + 1)) next (l[k].s + l[k].n)) := Lib.hid (greatest_take hlt hG)
              generalize l[k] = x at *
              clear hat hr hG
              cases hp : okB x
              · have HP := Lib.hid hp
                clear hp
                go_wp2_with fail
                refine wp_region_next (by kernel_rfl) (by kernel_rfl) ?_
                repeat (go_big_quiet_step ((go_at_call 150; exact Calls.next_of (one_is _ _ _ _ _ HP.out))))
                refine wpQuiet_nil ?_
                intro _ hw'
                obtain ⟨nq, hw''⟩ := hw'
                subst hw''
                go_wp2_with fail
                go_roundw
                case rel => exact ⟨k + 1, t, by omega, by go_num, rfl, HS.out (.inl HP.out), hB3.onNext _⟩
                case measure => simp [intOf]; omega
              · obtain ⟨c1, c2, c3, c4, c5⟩ := (okB_iff x).1 hp
                have HP := Lib.hid hp
                clear hp
                by_cases hsn : x.s ≤ next
                · have hd1 : decide (x.s ≤ next) = true := decide_eq_true hsn
                  by_cases hte : t < x.s + x.n
                  · have hd2 : decide (t < x.s + x.n) = true := decide_eq_true hte
                    go_wp2_with fail
                    refine wp_region_next (by kernel_rfl) (by kernel_rfl) ?_
                    repeat (go_big_quiet_step ((go_at_call 150; exact Calls.next_of (one_is _ _ _ _ _ HP.out))))
                    refine wpQuiet_nil ?_
                    intro _ hw'
                    obtain ⟨nq, hw''⟩ := hw'
                    subst hw''
                    have hB4 := hB3.onNext nq
                    have h2 := (World.below_next wr nq).keep h2
                    have h3 := (World.below_next wr nq).keep h3
                    generalize wr.next nq = wr4 at *
                    go_wp2_with fail
                    refine wp_region_next (by kernel_rfl) (by kernel_rfl) ?_
                    repeat (go_big_quiet_step (fail))
                    refine wpQuiet_nil ?_
                    intro _ hw'
                    obtain ⟨nq, hw''⟩ := hw'
                    subst hw''
                    go_wp2_with fail
                    go_roundw
                    case rel => exact ⟨k + 1, x.s + x.n, by omega, by go_num, rfl, HT.out HP.out hsn hte, hB4.onNext _⟩
                    case measure => simp [intOf]; omega
                  · have hd2 : decide (t < x.s + x.n) = false := decide_eq_false hte
                    go_wp2_with fail
                    refine wp_region_next (by kernel_rfl) (by kernel_rfl) ?_
                    repeat (go_big_quiet_step ((go_at_call 150; exact Calls.next_of (one_is _ _ _ _ _ HP.out))))
                    refine wpQuiet_nil ?_
                    intro _ hw'
                    obtain ⟨nq, hw''⟩ := hw'
                    subst hw''
                    go_wp2_with fail
                    go_roundw
                    case rel => exact ⟨k + 1, t, by omega, by go_num, rfl, HS.out (.inr (.inr (by omega))), hB3.onNext _⟩
                    case measure => simp [intOf]; omega
                · have hd1 : decide (x.s ≤ next) = false := decide_eq_false hsn
                  go_wp2_with fail
                  refine wp_region_next (by kernel_rfl) (by kernel_rfl) ?_
                  repeat (go_big_quiet_step ((go_at_call 150; exact Calls.next_of (one_is _ _ _ _ _ HP.out))))
                  refine wpQuiet_nil ?_
                  intro _ hw'
                  obtain ⟨nq, hw''⟩ := hw'
                  subst hw''
                  go_wp2_with fail
                  go_roundw
                  case rel => exact ⟨k + 1, t, by omega, by go_num, rfl, HS.out (.inr (.inl (by omega))), hB3.onNext _⟩
                  case measure => simp [intOf]; omega
            · rw [List.take_of_length_le (by omega)] at hG
              obtain ⟨g1, g2, g3⟩ := below_step HBL.out HL.out hG
              have HN := Lib.hid g1
              have HR3 := Lib.hid (HR2.out.keep hB3)
              have hrs := canon_short HBL.out.canon
              clear hG g1 HR2 hB3
              by_cases hR : R = []
              · subst hR
                obtain ⟨a3, c3, rfl⟩ : ∃ a c, u3 = .slice a 0 c := by
                  rcases HR3.out.form with ⟨rfl, _⟩ | ⟨g, c, rfl, _⟩
                  · exact ⟨_, _, rfl⟩
                  · exact ⟨_, _, rfl⟩
                go_wp2_with fail
                refine wp_region_next (by kernel_rfl) (by kernel_rfl) ?_
                repeat (go_big_quiet_step (fail))
                refine wpQuiet_nil ?_
                intro _ hw'
                obtain ⟨nq, hw''⟩ := hw'
                subst hw''
                have hB5 := hBw3.onNext nq
                have HR5 := Lib.hid (HR3.out.keep (World.below_next wr nq))
                have hsz5 := hB5.size
                generalize wr.next nq = W at *
                clear HR3 hBw3
                go_wp2_with (at_builtin; refine wpList_append_x _ rfl _ _ 51 rfl w.heap.size 65 i0 (.agg #[.int .i64 0, .int .i64 0, .int .i64 0]) 3 24 Tryz.underlying51 hi hz0 hz1 hz2 rfl (by decide) _ _ _ rfl (World.ownsRow.alloc HR5.out _) ⟨W.heap.size, 0, none⟩ 1 1 (E.cells (⟨0, t - next, next⟩ : E)) rfl rfl (newE _ _ (by simp) _ _) (cellsE_one _) (by first | omega | (simp only [List.length_nil, List.length_append, List.length_cons]; omega)) (by first | (simp only [maxLen]; omega) | (simp only [maxLen, List.length_nil, List.length_append, List.length_cons]; omega)) (by simp only [World.size_alloc]; omega) ?_; intro v1 w1 hown1 hgrow1 hwhere1)
                have hB6 := Lib.hid ((hB5.onAlloc (.cells #[.int .i64 0, .int .i64 (t - next), .int .i64 next] 65)).onGrow hgrow1 fun j hj => (HR5.out.lt j hj).1)
                have HO6 := Lib.hid (OwnE.snoc hown1 (by simp))
                clear hown1 hgrow1 hwhere1
                go_roundw
                case rel => exact ⟨_, t, rfl, HN.out, HO6.out, hB6.out⟩
                case measure => simp; omega
              · obtain ⟨C, y, rfl⟩ := snoc_of R hR
                obtain ⟨g, c3, rfl, hg1, hg2, hc1, hc2, hgt, hfz⟩ := (HR3.out.form).resolve_left (by simp)
                obtain ⟨y1, y2, y3⟩ := hgt C.length y (by simp)
                simp only [List.length_append, List.length_cons, List.length_nil, Nat.zero_add] at y1 y2 y3 hc1 hrs
                have hf := hfz (C.length * 3 + 1)
                obtain ⟨e1, e2, e3, e4, e5⟩ := (okB_iff y).1 (HBL.out.canon.1 y (by simp)).2
                have hlen : (C ++ [y]).length = C.length + 1 := by simp
                have HR4 := Lib.hid HR3.out
                rw [hlen] at HR4 ⊢
                have hd : decide (0 ≤ C.length) = true := by simp
                clear hgt hfz hlen HR3 hR hr
                by_cases hm : y.s + y.n = next
                · have hsb : (y.s + y.n == next) = true := by simp [hm]
                  have HG : Hid (grow (C ++ [y]) next t = _) := Lib.hid (grow_yes C y next t hm)
                  clear hm
                  go_wp2_with fail
                  refine wp_region_next (by kernel_rfl) (by kernel_rfl) ?_
                  repeat (go_big_quiet_step (fail))
                  refine wpQuiet_nil ?_
                  intro _ hw'
                  obtain ⟨nq, hw''⟩ := hw'
                  subst hw''
                  have hB5 := hBw3.onNext nq
                  have hbn := World.below_next wr nq
                  have HR5 := Lib.hid (HR4.out.keep hbn)
                  have z2 := hbn.keep y2
                  have hfr := hbn.keepF y2 hf
                  clear hbn y1 y2 y3 hf HR4 hBw3
                  generalize wr.next nq = W at *
                  go_wp2_with fail
                  have hst := HR5.out.setn rfl (y.n + (t - next))
                  have HS1 := Lib.hid hst.1
                  have HS2 := Lib.hid hst.2
                  clear hst
                  go_roundw
                  case rel => exact ⟨_, t, rfl, HN.out, by rw [HG.out]; exact HS1.out, hB5.onGrow HS2.out fun j hj => by simp at hj; omega⟩
                  case measure => simp; omega
                · have hsb : (y.s + y.n == next) = false := by simpa using hm
                  have HG : Hid (grow (C ++ [y]) next t = _) := Lib.hid (grow_no C y next t hm)
                  clear hm
                  go_wp2_with fail
                  refine wp_region_next (by kernel_rfl) (by kernel_rfl) ?_
                  repeat (go_big_quiet_step (fail))
                  refine wpQuiet_nil ?_
                  intro _ hw'
                  obtain ⟨nq, hw''⟩ := hw'
                  subst hw''
                  have hB5 := hBw3.onNext nq
                  have hbn := World.below_next wr nq
                  have HR5 := Lib.hid (HR4.out.keep hbn)
                  have hsz5 := hB5.size
                  clear hbn y1 y2 y3 hf HR4 hBw3
                  generalize wr.next nq = W at *
                  go_wp2_with (at_builtin; refine wpList_append_x _ rfl _ _ 51 rfl w.heap.size 65 i0 (.agg #[.int .i64 0, .int .i64 0, .int .i64 0]) 3 24 Tryz.underlying51 hi hz0 hz1 hz2 rfl (by decide) _ _ _ rfl (World.ownsRow.alloc HR5.out _) ⟨W.heap.size, 0, none⟩ 1 1 (E.cells (⟨0, t - next, next⟩ : E)) rfl rfl (newE _ _ (by simp) _ _) (cellsE_one _) (by first | omega | (simp only [List.length_nil, List.length_append, List.length_cons]; omega)) (by first | (simp only [maxLen]; omega) | (simp only [maxLen, List.length_nil, List.length_append, List.length_cons]; omega)) (by simp only [World.size_alloc]; omega) ?_; intro v1 w1 hown1 hgrow1 hwhere1)
                  have hB6 := Lib.hid ((hB5.onAlloc (.cells #[.int .i64 0, .int .i64 (t - next), .int .i64 next] 65)).onGrow hgrow1 fun j hj => (HR5.out.lt j hj).1)
                  have HO6 := Lib.hid (OwnE.snoc hown1 (by simp))
                  clear hown1 hgrow1 hwhere1
                  go_roundw
                  case rel => exact ⟨_, t, rfl, HN.out, by rw [HG.out]; exact HO6.out, hB6.out⟩
                  case measure => simp; omega
end Go.Proofs.YtpakjddfnhnndaaGreat
