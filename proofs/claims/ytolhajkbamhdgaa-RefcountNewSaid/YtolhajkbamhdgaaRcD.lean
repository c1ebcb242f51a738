/-
  The specification tegularef34: New, permitted, changed, Add, Of, Used, Total.
  Conditions: as each theorem says.
-/
import Derived.Test.YtolhajkbamhdgaaRcB
namespace Go.Proofs.Ytolhajkbamhdgaa
set_option linter.unusedSimpArgs false
set_option linter.unusedVariables false
open Go.RowKit

set_option maxRecDepth 100000 in
set_option maxHeartbeats 1000000 in
theorem rnew_yes (n : Nat) (w : World) (hn : n ≤ 65536) :
    Calls Try.prog 49 #[.int .i64 n] w fun e w' => ∃ v, e = .returned (.tuple #[v, .int .i64 0]) ∧ OwnI w' w.heap.size v (List.replicate n 0) ∧ Below w.heap.size w w' := by
  go_enter Try.func49, Try.ntmps49
  go_wp2_with ((at_make; refine wpList_make_I _ rfl _ _ 28 rfl Try.underlying28 _ _ n rfl rfl (by omega) w.heap.size w.heap.size rfl (by omega) ?_; intro w1 ho1 hb1 hz1))
  go_ret2
  exact ⟨_, rfl, ho1, hb1⟩
set_option maxRecDepth 100000 in
set_option maxHeartbeats 1000000 in
theorem rnew_no (n : Int) (w : World) (h : n < 0 ∨ 65536 < n) :
    Calls Try.prog 49 #[.int .i64 n] w fun e w' => e = .returned (.tuple #[.slice none 0 0, .int .i64 1]) ∧ w = w' := by
  rcases h with h | h
  all_goals
    go_enter Try.func49, Try.ntmps49
    go_wp2
    go_ret2
    exact ⟨rfl, rfl⟩
def PermPost (N : Nat) (l : List E) (w : World) (e : Ending) (w' : World) : Prop := e = .returned (.bool (permB N l)) ∧ Below w.heap.size w w'
theorem permB_bad (N : Nat) (l : List E) (k : Nat) (h : k < l.length) (hx : permX N l[k] = false) : permB N l = false := by
  cases hp : permB N l
  · rfl
  · have := (permB_iff _ _).1 hp _ (List.getElem_mem h)
    simp [permX] at hx
    omega
set_option maxRecDepth 100000 in
set_option maxHeartbeats 2000000 in
theorem rpermitted_any (N : Nat) (l : List E) (a al : Option Addr) (c cl : Nat) (w : World) (hN : N ≤ 65536) (hr : Rd w al l) (hw : wfL l) :
    Calls Try.prog 53 #[.slice a N c, .slice al l.length cl] w (PermPost N l w) := by
  have hlen := hr.1
  go_enter Try.func53, Try.ntmps53
  go_wp2_with fail
  go_loopw [5] (fun i wr => ∃ k : Nat, k ≤ l.length ∧ i = .int .i64 k ∧ permB N (l.take k) = true ∧ Below w.heap.size w wr) (fun i _ => l.length - (intOf i).toNat)
  case atStart => exact ⟨0, Nat.zero_le _, rfl, rfl, Below.refl _ _⟩
  case round =>
    obtain ⟨k, hk, rfl, hp, hB⟩ := hrel
    by_cases hlt : k < l.length
    · obtain ⟨b, o, rfl, hat⟩ := (hr.keep hB).at (by omega)
      obtain ⟨h1, h2, h3⟩ := hat k _ (List.getElem?_eq_getElem hlt)
      have HX := Lib.hid (hw _ (List.getElem_mem hlt))
      have HV := Lib.hid (permB_next N l k hlt)
      have HBad := Lib.hid (permB_bad N l k hlt)
      have HP := Lib.hid hp
      have hk0 : (0 : Int) ≤ k := by omega
      have hk1 : (k : Int) < l.length := by omega
      generalize l[k] = x at *
      clear hat hr hp
      obtain ⟨_, ⟨b3, b4⟩, ⟨b5, b6⟩⟩ := HX.out
      by_cases d1 : x.n < 1
      · have HF : Hid (permX N x = false) := Lib.hid (by simp [permX]; omega)
        have e1 : decide (x.n < 1) = true := decide_eq_true d1
        go_wp2_with fail
        refine wp_region_next (by kernel_rfl) (by kernel_rfl) ?_
        repeat (go_big_quiet_step (fail))
        refine wpQuiet_nil ?_
        intro _ hw'
        obtain ⟨nq, hw''⟩ := hw'
        subst hw''
        go_wp2_with fail
        go_ret
        exact ⟨ret_bool (by rw [HBad.out HF.out]), hB.onNext _⟩
      · have e1 : decide (x.n < 1) = false := decide_eq_false d1
        by_cases d2 : x.s < 0
        · have HF : Hid (permX N x = false) := Lib.hid (by simp [permX]; omega)
          have e2 : decide (x.s < 0) = true := decide_eq_true d2
          go_wp2_with fail
          refine wp_region_next (by kernel_rfl) (by kernel_rfl) ?_
          repeat (go_big_quiet_step (fail))
          refine wpQuiet_nil ?_
          intro _ hw'
          obtain ⟨nq, hw''⟩ := hw'
          subst hw''
          go_wp2_with fail
          go_ret
          exact ⟨ret_bool (by rw [HBad.out HF.out]), hB.onNext _⟩
        · have e2 : decide (x.s < 0) = false := decide_eq_false d2
          by_cases d3 : (N : Int) ≤ x.s
          · have HF : Hid (permX N x = false) := Lib.hid (by simp [permX]; omega)
            have e3 : decide ((N : Int) ≤ x.s) = true := decide_eq_true d3
            go_wp2_with fail
            refine wp_region_next (by kernel_rfl) (by kernel_rfl) ?_
            repeat (go_big_quiet_step (fail))
            refine wpQuiet_nil ?_
            intro _ hw'
            obtain ⟨nq, hw''⟩ := hw'
            subst hw''
            go_wp2_with fail
            go_ret
            exact ⟨ret_bool (by rw [HBad.out HF.out]), hB.onNext _⟩
          · have e3 : decide ((N : Int) ≤ x.s) = false := decide_eq_false d3
            by_cases d4 : (N : Int) - x.s < x.n
            · have HF : Hid (permX N x = false) := Lib.hid (by simp [permX]; omega)
              have e4 : decide ((N : Int) - x.s < x.n) = true := decide_eq_true d4
              go_wp2_with fail
              refine wp_region_next (by kernel_rfl) (by kernel_rfl) ?_
              repeat (go_big_quiet_step (fail))
              refine wpQuiet_nil ?_
              intro _ hw'
              obtain ⟨nq, hw''⟩ := hw'
              subst hw''
              go_wp2_with fail
              go_ret
              exact ⟨ret_bool (by rw [HBad.out HF.out]), hB.onNext _⟩
            · have HF : Hid (permX N x = true) := Lib.hid (by simp [permX]; omega)
              have e4 : decide ((N : Int) - x.s < x.n) = false := decide_eq_false d4
              go_wp2_with fail
              refine wp_region_next (by kernel_rfl) (by kernel_rfl) ?_
              repeat (go_big_quiet_step (fail))
              refine wpQuiet_nil ?_
              intro _ hw'
              obtain ⟨nq, hw''⟩ := hw'
              subst hw''
              go_wp2_with fail
              go_roundw
              case rel => exact ⟨k + 1, by omega, by go_num, by rw [HV.out, HP.out, HF.out]; rfl, hB.onNext _⟩
              case measure => simp [intOf]; omega
    · have HP := Lib.hid hp
      clear hp
      go_wp2
      go_ret
      refine ⟨ret_bool ?_, hB⟩
      have := HP.out
      rw [List.take_of_length_le (by omega)] at this
      rw [this]

set_option maxRecDepth 100000 in
set_option maxHeartbeats 4000000 in
theorem rchanged_any (C : List Int) (l : List E) (d : Int) (a al : Option Addr) (c cl : Nat) (w : World) (hrC : RdI w a C) (hr : Rd w al l) (hp : permB C.length l = true) (hd : -1 ≤ d ∧ d ≤ 1) (hR : inR (-1000000000) 1000000000 C) (hl : l.length ≤ 1000000000) :
    Calls Try.prog 54 #[.slice a C.length c, .slice al l.length cl, .int .i64 d] w fun e w' => ∃ v, e = .returned v ∧ OwnI w' w.heap.size v (chgL C l d) ∧ Below w.heap.size w w' := by
  have hC := hrC.1
  have hlen := hr.1
  have HP := Lib.hid ((permB_iff _ _).1 hp)
  have HR := Lib.hid hR
  have H0 := Lib.hid (OwnI.empty w w.heap.size (Nat.le_refl _))
  have HS := Lib.hid ((hrC.keep ((Below.refl _ _).onAlloc (.cells #[] 3))).source)
  obtain ⟨i0, hi, hz0, hz1, hz2⟩ := info_parts infoI
  clear hp hR
  go_enter Try.func54, Try.ntmps54
  go_upto_region 2 with (at_builtin; refine wpList_append_xs _ rfl _ _ 28 rfl w.heap.size 3 i0 (.int .i64 0) 1 8 Try.underlying28 hi hz0 hz1 hz2 rfl (by decide) (.slice (some ⟨w.heap.size, 0, none⟩) 0 0) _ _ rfl H0.out _ _ _ _ rfl HS.out (by simp only [List.length_nil]; omega) (by simp only [maxLen, List.length_nil]; omega) (by simp only [World.size_alloc]; omega) ?_; intro v1 w1 hown1 hgrow1 hwhere1)
  have ho := OwnI.append (C := []) hown1 (by simp)
  rw [List.nil_append] at ho
  have HB := ((Below.refl w.heap.size w).onAlloc (.cells #[] 3)).onGrow hgrow1 (fun j hj => (H0.out.lt j hj).1)
  obtain ⟨g, c1, rfl, hg1, hg2, _⟩ := ho.form.resolve_left (by rintro ⟨rfl, _⟩; simp [Value.ownBlock] at hwhere1)
  have HO := Lib.hid ho
  clear hown1 hgrow1 hwhere1 ho hrC
  go_wp2_with fail
  go_loopw [8] (fun i wr => ∃ k : Nat, k ≤ l.length ∧ i = .int .i64 k ∧ OwnI wr w.heap.size (.slice (some ⟨g, 0, none⟩) C.length c1) (chgL C (l.take k) d) ∧ w1.grownBy wr (some g)) (fun i _ => l.length - (intOf i).toNat)
  case atStart => exact ⟨0, Nat.zero_le _, rfl, HO.out, World.grownBy.refl _ _⟩
  case round =>
    obtain ⟨k, hk, rfl, ho, hg⟩ := hrel
    have hB := HB.onGrow hg (by intro j hj; simp at hj; omega)
    by_cases hlt : k < l.length
    · obtain ⟨b, o, rfl, hat⟩ := (hr.keep hB).at (by omega)
      obtain ⟨h1, h2, h3⟩ := hat k _ (List.getElem?_eq_getElem hlt)
      obtain ⟨p1, p2, p3⟩ := HP.out _ (List.getElem_mem hlt)
      have HT := Lib.hid (chgL_take C l d k hlt)
      have HRk := Lib.hid (inR_mono (lo' := -2000000000) (hi' := 2000000000) (chgL_range (l.take k) d hd C _ _ HR.out) (by have := List.length_take_le k l; omega) (by have := List.length_take_le k l; omega))
      have HL := Lib.hid (chgL_length C (l.take k) d)
      have hbb : ¬ b = g := by
        obtain ⟨b', o', he, hat'⟩ := hr.at (by omega)
        injection he with he
        injection he with he
        subst he
        have := World.block_lt_of_cell? w _ (hat' k _ (List.getElem?_eq_getElem hlt)).n
        simp at this
        omega
      have hk0 : (0 : Int) ≤ k := by omega
      have hk1 : (k : Int) < l.length := by omega
      generalize l[k] = x at *
      generalize chgL C (l.take k) d = D at *
      obtain ⟨xa, xn, xs⟩ := x
      simp only at h1 h2 h3 p1 p2 p3 HT
      obtain ⟨s, rfl⟩ := Int.eq_ofNat_of_zero_le p2
      obtain ⟨n, rfl⟩ := Int.eq_ofNat_of_zero_le (show 0 ≤ xn by omega)
      simp only [Int.toNat_natCast] at HT
      have HOW := Lib.hid ho
      have hgW := hg
      clear hat ho hr hg HO
      go_wp2_with fail
      obtain ⟨W0, rfl⟩ : ∃ W0 : World, W0 = wr := ⟨_, rfl⟩
      go_loopw [9] (fun t wi => ∃ p : Nat, s ≤ p ∧ p ≤ s + n ∧ t = .int .i64 p ∧ OwnI wi w.heap.size (.slice (some ⟨g, 0, none⟩) C.length c1) (addR D s d (p - s)) ∧ W0.grownBy wi (some g)) (fun t _ => s + n - (intOf t).toNat)
      case atStart => exact ⟨s, Nat.le_refl _, by omega, rfl, by rw [Nat.sub_self]; exact HOW.out, World.grownBy.refl _ _⟩
      case round =>
        obtain ⟨p, hp1, hp2, rfl, hoi, hgi⟩ := hrel
        have y1 := hgi.cell h2 (by simpa using hbb)
        have y2 := hgi.cell h3 (by simpa using hbb)
        by_cases hlp : p < s + n
        · have hlpb : decide ((p : Int) < ↑s + ↑n) = true := decide_eq_true (by omega)
          have HLA := Lib.hid (addR_length D s d (p - s))
          have hpl : p < D.length := by have := HL.out; omega
          have hpC : p < C.length := by have := HL.out; omega
          have HS2 := Lib.hid (addR_step D s p d hp1 hpl)
          have HG := Lib.hid (addR_get D s d (p - s) p hpl)
          have HOI := Lib.hid hoi
          have HGI := Lib.hid hgi
          obtain ⟨z1, z2⟩ := inR_get.1 HRk.out p hpl
          clear hoi hgi
          go_wp2_with fail
          refine wp_region_next (by kernel_rfl) (by kernel_rfl) ?_
          repeat (go_big_quiet_step (fail))
          refine wpQuiet_nil ?_
          intro _ hw'
          obtain ⟨nq, hw''⟩ := hw'
          subst hw''
          generalize hW : World.next _ nq = W1
          have hb1 : Below wr.heap.size wr W1 := by rw [← hW]; exact World.below_next _ _
          have hoi1 := HOI.out.keep hb1
          have hcell := hoi1.cells.1 p _ (getD_some _ p (by rw [HLA.out]; exact hpl))
          have hfree := hoi1.cells.2 p
          have hv1 : -2000000010 ≤ (addR D s d (p - s)).getD p 0 := by rw [HG.out]; split <;> omega
          have hv2 : (addR D s d (p - s)).getD p 0 ≤ 2000000010 := by rw [HG.out]; split <;> omega
          obtain ⟨HO2, hg3⟩ := OwnI.set (by rw [HLA.out, HL.out]) hoi1 p ((addR D s d (p - s)).getD p 0 + d)
          have HO2 := Lib.hid HO2
          rw [← HS2.out] at HO2
          have HG3 := Lib.hid (World.grownBy.next (World.grownBy.behind HGI.out hb1) hg3)
          generalize (addR D s d (p - s)).getD p 0 = y at *
          clear hoi1 hg3 HG hW hb1 y1 y2
          go_wp2_with fail
          go_roundw
          case rel => exact ⟨p + 1, by omega, by omega, by go_num, HO2.out, HG3.out⟩
          case measure => simp [intOf]; omega
        · have hlpb : decide ((p : Int) < ↑s + ↑n) = false := decide_eq_false (by omega)
          obtain rfl : p = s + n := by omega
          rw [show s + n - s = n by omega] at hoi
          have HOI := Lib.hid hoi
          have HGI := Lib.hid hgi
          clear hoi hgi hlp
          go_wp2_with fail
          refine wp_region_next (by kernel_rfl) (by kernel_rfl) ?_
          repeat (go_big_quiet_step (fail))
          refine wpQuiet_nil ?_
          intro _ hw'
          obtain ⟨nq, hw''⟩ := hw'
          subst hw''
          generalize hW : World.next _ nq = W1
          have hb1 : Below wr.heap.size wr W1 := by rw [← hW]; exact World.below_next _ _
          have HO2 := Lib.hid (HOI.out.keep hb1)
          have HG2 := Lib.hid (World.grownBy.next hgW (World.grownBy.behind HGI.out hb1))
          clear hW hb1 y1 y2
          go_wp2_with fail
          go_roundw
          case rel => exact ⟨k + 1, by omega, by go_num, by rw [HT.out]; exact HO2.out, HG2.out⟩
          case measure => simp [intOf]; omega
    · rw [List.take_of_length_le (by omega)] at ho
      go_wp2
      go_ret
      exact ⟨_, rfl, ho, hB⟩
end Go.Proofs.Ytolhajkbamhdgaa
