/-
  The specification tegularef34: New, permitted, changed, Add, Of, Used, Total.
  The specification tegularef34: Add, Of, Used, Total, runs, Zero, Drop.
  The specification tegularef34: Drop.
  refcount.Single.
  Conditions: as each theorem says.
-/
import Derived.Test.YtpakjddfnhnndaaGreatGF
import Derived.Test.YtpakjddfnhnndaaGreatGA
namespace Go.Proofs.YtpakjddfnhnndaaGreat
set_option linter.unusedSimpArgs false
set_option linter.unusedVariables false
set_option maxRecDepth 100000
open Go.RowKit

set_option maxRecDepth 100000 in
set_option maxHeartbeats 1000000 in
theorem rnew_yes (n : Nat) (w : World) (hn : n ≤ 65536) :
    Calls Tryz.prog 116 #[.int .i64 n] w fun e w' => ∃ v, e = .returned (.tuple #[v, .int .i64 0]) ∧ OwnI w' w.heap.size v (List.replicate n 0) ∧ Below w.heap.size w w' := by
  go_enter Tryz.func116, Tryz.ntmps116
  go_wp2_with ((at_make; refine wpList_make_I _ rfl _ _ 128 rfl Tryz.underlying128 _ _ n rfl rfl (by omega) w.heap.size w.heap.size rfl (by omega) ?_; intro w1 ho1 hb1 hz1))
  go_ret2
  exact ⟨_, rfl, ho1, hb1⟩
set_option maxRecDepth 100000 in
set_option maxHeartbeats 1000000 in
theorem rnew_no (n : Int) (w : World) (h : n < 0 ∨ 65536 < n) :
    Calls Tryz.prog 116 #[.int .i64 n] w fun e w' => e = .returned (.tuple #[.slice none 0 0, .int .i64 1]) ∧ w = w' := by
  rcases h with h | h
  all_goals
    go_enter Tryz.func116, Tryz.ntmps116
    go_wp2
    go_ret2
    exact ⟨rfl, rfl⟩
def PermPost (N : Nat) (l : List E) (w : World) (e : Ending) (w' : World) : Prop := e = .returned (.bool (permB N l)) ∧ Below w.heap.size w w'
theorem permB_bad (N : Nat) (l : List E) (k : Nat) (h : k < l.length) (hx : permX N l[k] = false) : permB N l = false := by
  cases hp : permB N l
  · rfl
  · have := (permB_iff _ _).1 hp _ (List.getElem_mem h)
    simp [permX] at hx
    omega
set_option maxRecDepth 100000 in
set_option maxHeartbeats 2000000 in
theorem rpermitted_any (N : Nat) (l : List E) (a al : Option Addr) (c cl : Nat) (w : World) (hN : N ≤ 65536) (hr : Rd w al l) (hw : wfL l) :
    Calls Tryz.prog 151 #[.slice a N c, .slice al l.length cl] w (PermPost N l w) := by
  have hlen := hr.1
  go_enter Tryz.func151, Tryz.ntmps151
  go_wp2_with fail
  go_loopw [5] (fun i wr => ∃ k : Nat, k ≤ l.length ∧ i = .int .i64 k ∧ permB N (l.take k) = true ∧ Below w.heap.size w wr) (fun i _ => l.length - (intOf i).toNat)
  case atStart => exact ⟨0, Nat.zero_le _, rfl, rfl, Below.refl _ _⟩
  case round =>
    obtain ⟨k, hk, rfl, hp, hB⟩ := hrel
    by_cases hlt : k < l.length
    · obtain ⟨b, o, rfl, hat⟩ := (hr.keep hB).at (by omega)
      obtain ⟨h1, h2, h3⟩ := hat k _ (List.getElem?_eq_getElem hlt)
      have HX := Lib.hid (hw _ (List.getElem_mem hlt))
      have HV := Lib.hid (permB_next N l k hlt)
      have HBad := Lib.hid (permB_bad N l k hlt)
      have HP := Lib.hid hp
      have hk0 : (0 : Int) ≤ k := by omega
      have hk1 : (k : Int) < l.length := by omega
      generalize l[k] = x at *
      clear hat hr hp
      obtain ⟨_, ⟨b3, b4⟩, ⟨b5, b6⟩⟩ := HX.out
      by_cases d1 : x.n < 1
      · have HF : Hid (permX N x = false) := Lib.hid (by simp [permX]; omega)
        have e1 : decide (x.n < 1) = true := decide_eq_true d1
        go_wp2_with fail
        refine wp_region_next (by kernel_rfl) (by kernel_rfl) ?_
        repeat (go_big_quiet_step (fail))
        refine wpQuiet_nil ?_
        intro _ hw'
        obtain ⟨nq, hw''⟩ := hw'
        subst hw''
        go_wp2_with fail
        go_ret
        exact ⟨ret_bool (by rw [HBad.out HF.out]), hB.onNext _⟩
      · have e1 : decide (x.n < 1) = false := decide_eq_false d1
        by_cases d2 : x.s < 0
        · have HF : Hid (permX N x = false) := Lib.hid (by simp [permX]; omega)
          have e2 : decide (x.s < 0) = true := decide_eq_true d2
          go_wp2_with fail
          refine wp_region_next (by kernel_rfl) (by kernel_rfl) ?_
          repeat (go_big_quiet_step (fail))
          refine wpQuiet_nil ?_
          intro _ hw'
          obtain ⟨nq, hw''⟩ := hw'
          subst hw''
          go_wp2_with fail
          go_ret
          exact ⟨ret_bool (by rw [HBad.out HF.out]), hB.onNext _⟩
        · have e2 : decide (x.s < 0) = false := decide_eq_false d2
          by_cases d3 : (N : Int) ≤ x.s
          · have HF : Hid (permX N x = false) := Lib.hid (by simp [permX]; omega)
            have e3 : decide ((N : Int) ≤ x.s) = true := decide_eq_true d3
            go_wp2_with fail
            refine wp_region_next (by kernel_rfl) (by kernel_rfl) ?_
            repeat (go_big_quiet_step (fail))
            refine wpQuiet_nil ?_
            intro _ hw'
            obtain ⟨nq, hw''⟩ := hw'
            subst hw''
            go_wp2_with fail
            go_ret
            exact ⟨ret_bool (by rw [HBad.out HF.out]), hB.onNext _⟩
          · have e3 : decide ((N : Int) ≤ x.s) = false := decide_eq_false d3
            by_cases d4 : (N : Int) - x.s < x.n
            · have HF : Hid (permX N x = false) := Lib.hid (by simp [permX]; omega)
              have e4 : decide ((N : Int) - x.s < x.n) = true := decide_eq_true d4
              go_wp2_with fail
              refine wp_region_next (by kernel_rfl) (by kernel_rfl) ?_
              repeat (go_big_quiet_step (fail))
              refine wpQuiet_nil ?_
              intro _ hw'
              obtain ⟨nq, hw''⟩ := hw'
              subst hw''
              go_wp2_with fail
              go_ret
              exact ⟨ret_bool (by rw [HBad.out HF.out]), hB.onNext _⟩
            · have HF : Hid (permX N x = true) := Lib.hid (by simp [permX]; omega)
              have e4 : decide ((N : Int) - x.s < x.n) = false := decide_eq_false d4
              go_wp2_with fail
              refine wp_region_next (by kernel_rfl) (by kernel_rfl) ?_
              repeat (go_big_quiet_step (fail))
              refine wpQuiet_nil ?_
              intro _ hw'
              obtain ⟨nq, hw''⟩ := hw'
              subst hw''
              go_wp2_with fail
              go_roundw
              case rel => exact ⟨k + 1, by omega, by go_num, by rw [HV.out, HP.out, HF.out]; rfl, hB.onNext _⟩
              case measure => simp [intOf]; omega
    · have HP := Lib.hid hp
      clear hp
      go_wp2
      go_ret
      refine ⟨ret_bool ?_, hB⟩
      have := HP.out
      rw [List.take_of_length_le (by omega)] at this
      rw [this]

set_option maxRecDepth 100000 in
set_option maxHeartbeats 4000000 in
theorem rchanged_any (C : List Int) (l : List E) (d : Int) (a al : Option Addr) (c cl : Nat) (w : World) (hrC : RdI w a C) (hr : Rd w al l) (hp : permB C.length l = true) (hd : -1 ≤ d ∧ d ≤ 1) (hR : inR (-1000000000) 1000000000 C) (hl : l.length ≤ 1000000000) :
    Calls Tryz.prog 152 #[.slice a C.length c, .slice al l.length cl, .int .i64 d] w fun e w' => ∃ v, e = .returned v ∧ OwnI w' w.heap.size v (chgL C l d) ∧ Below w.heap.size w w' := by
  have hC := hrC.1
  have hlen := hr.1
  have HP := Lib.hid ((permB_iff _ _).1 hp)
  have HR := Lib.hid hR
  have H0 := Lib.hid (OwnI.empty w w.heap.size (Nat.le_refl _))
  have HS := Lib.hid ((hrC.keep ((Below.refl _ _).onAlloc (.cells #[] 3))).source)
  obtain ⟨i0, hi, hz0, hz1, hz2⟩ := info_parts infoI
  clear hp hR
  go_enter Tryz.func152, Tryz.ntmps152
  go_upto_region 2 with (at_builtin; refine wpList_append_xs _ rfl _ _ 128 rfl w.heap.size 3 i0 (.int .i64 0) 1 8 Tryz.underlying128 hi hz0 hz1 hz2 rfl (by decide) (.slice (some ⟨w.heap.size, 0, none⟩) 0 0) _ _ rfl H0.out _ _ _ _ rfl HS.out (by simp only [List.length_nil]; omega) (by simp only [maxLen, List.length_nil]; omega) (by simp only [World.size_alloc]; omega) ?_; intro v1 w1 hown1 hgrow1 hwhere1)
  have ho := OwnI.append (C := []) hown1 (by simp)
  rw [List.nil_append] at ho
  have HB := ((Below.refl w.heap.size w).onAlloc (.cells #[] 3)).onGrow hgrow1 (fun j hj => (H0.out.lt j hj).1)
  obtain ⟨g, c1, rfl, hg1, hg2, _⟩ := ho.form.resolve_left (by rintro ⟨rfl, _⟩; simp [Value.ownBlock] at hwhere1)
  have HO := Lib.hid ho
  clear hown1 hgrow1 hwhere1 ho hrC
  go_wp2_with fail
  go_loopw [8] (fun i wr => ∃ k : Nat, k ≤ l.length ∧ i = .int .i64 k ∧ OwnI wr w.heap.size (.slice (some ⟨g, 0, none⟩) C.length c1) (chgL C (l.take k) d) ∧ w1.grownBy wr (some g)) (fun i _ => l.length - (intOf i).toNat)
  case atStart => exact ⟨0, Nat.zero_le _, rfl, HO.out, World.grownBy.refl _ _⟩
  case round =>
    obtain ⟨k, hk, rfl, ho, hg⟩ := hrel
    have hB := HB.onGrow hg (by intro j hj; simp at hj; omega)
    by_cases hlt : k < l.length
    · obtain ⟨b, o, rfl, hat⟩ := (hr.keep hB).at (by omega)
      obtain ⟨h1, h2, h3⟩ := hat k _ (List.getElem?_eq_getElem hlt)
      obtain ⟨p1, p2, p3⟩ := HP.out _ (List.getElem_mem hlt)
      have HT := Lib.hid (chgL_take C l d k hlt)
      have HRk := Lib.hid (inR_mono (lo' := -2000000000) (hi' := 2000000000) (chgL_range (l.take k) d hd C _ _ HR.out) (by have := List.length_take_le k l; omega) (by have := List.length_take_le k l; omega))
      have HL := Lib.hid (chgL_length C (l.take k) d)
      have hbb : ¬ b = g := by
        obtain ⟨b', o', he, hat'⟩ := hr.at (by omega)
        injection he with he
        injection he with he
        subst he
        have := World.block_lt_of_cell? w _ (hat' k _ (List.getElem?_eq_getElem hlt)).n
        simp at this
        omega
      have hk0 : (0 : Int) ≤ k := by omega
      have hk1 : (k : Int) < l.length := by omega
      generalize l[k] = x at *
      generalize chgL C (l.take k) d = D at *
      obtain ⟨xa, xn, xs⟩ := x
      simp only at h1 h2 h3 p1 p2 p3 HT
      obtain ⟨s, rfl⟩ := Int.eq_ofNat_of_zero_le p2
      obtain ⟨n, rfl⟩ := Int.eq_ofNat_of_zero_le (show 0 ≤ xn by omega)
      simp only [Int.toNat_natCast] at HT
      have HOW := Lib.hid ho
      have hgW := hg
      clear hat ho hr hg HO
      go_wp2_with fail
      obtain ⟨W0, rfl⟩ : ∃ W0 : World, W0 = wr := ⟨_, rfl⟩
      go_loopw [9] (fun t wi => ∃ p : Nat, s ≤ p ∧ p ≤ s + n ∧ t = .int .i64 p ∧ OwnI wi w.heap.size (.slice (some ⟨g, 0, none⟩) C.length c1) (addR D s d (p - s)) ∧ W0.grownBy wi (some g)) (fun t _ => s + n - (intOf t).toNat)
      case atStart => exact ⟨s, Nat.le_refl _, by omega, rfl, by rw [Nat.sub_self]; exact HOW.out, World.grownBy.refl _ _⟩
      case round =>
        obtain ⟨p, hp1, hp2, rfl, hoi, hgi⟩ := hrel
        have y1 := hgi.cell h2 (by simpa using hbb)
        have y2 := hgi.cell h3 (by simpa using hbb)
        by_cases hlp : p < s + n
        · have hlpb : decide ((p : Int) < ↑s + ↑n) = true := decide_eq_true (by omega)
          have HLA := Lib.hid (addR_length D s d (p - s))
          have hpl : p < D.length := by have := HL.out; omega
          have hpC : p < C.length := by have := HL.out; omega
          have HS2 := Lib.hid (addR_step D s p d hp1 hpl)
          have HG := Lib.hid (addR_get D s d (p - s) p hpl)
          have HOI := Lib.hid hoi
          have HGI := Lib.hid hgi
          obtain ⟨z1, z2⟩ := inR_get.1 HRk.out p hpl
          clear hoi hgi
          go_wp2_with fail
          refine wp_region_next (by kernel_rfl) (by kernel_rfl) ?_
          repeat (go_big_quiet_step (fail))
          refine wpQuiet_nil ?_
          intro _ hw'
          obtain ⟨nq, hw''⟩ := hw'
          subst hw''
          generalize hW : World.next _ nq = W1
          have hb1 : Below wr.heap.size wr W1 := by rw [← hW]; exact World.below_next _ _
          have hoi1 := HOI.out.keep hb1
          have hcell := hoi1.cells.1 p _ (getD_some _ p (by rw [HLA.out]; exact hpl))
          have hfree := hoi1.cells.2 p
          have hv1 : -2000000010 ≤ (addR D s d (p - s)).getD p 0 := by rw [HG.out]; split <;> omega
          have hv2 : (addR D s d (p - s)).getD p 0 ≤ 2000000010 := by rw [HG.out]; split <;> omega
          obtain ⟨HO2, hg3⟩ := OwnI.set (by rw [HLA.out, HL.out]) hoi1 p ((addR D s d (p - s)).getD p 0 + d)
          have HO2 := Lib.hid HO2
          rw [← HS2.out] at HO2
          have HG3 := Lib.hid (World.grownBy.next (World.grownBy.behind HGI.out hb1) hg3)
          generalize (addR D s d (p - s)).getD p 0 = y at *
          clear hoi1 hg3 HG hW hb1 y1 y2
          go_wp2_with fail
          go_roundw
          case rel => exact ⟨p + 1, by omega, by omega, by go_num, HO2.out, HG3.out⟩
          case measure => simp [intOf]; omega
        · have hlpb : decide ((p : Int) < ↑s + ↑n) = false := decide_eq_false (by omega)
          obtain rfl : p = s + n := by omega
          rw [show s + n - s = n by omega] at hoi
          have HOI := Lib.hid hoi
          have HGI := Lib.hid hgi
          clear hoi hgi hlp
          go_wp2_with fail
          refine wp_region_next (by kernel_rfl) (by kernel_rfl) ?_
          repeat (go_big_quiet_step (fail))
          refine wpQuiet_nil ?_
          intro _ hw'
          obtain ⟨nq, hw''⟩ := hw'
          subst hw''
          generalize hW : World.next _ nq = W1
          have hb1 : Below wr.heap.size wr W1 := by rw [← hW]; exact World.below_next _ _
          have HO2 := Lib.hid (HOI.out.keep hb1)
          have HG2 := Lib.hid (World.grownBy.next hgW (World.grownBy.behind HGI.out hb1))
          clear hW hb1 y1 y2
          go_wp2_with fail
          go_roundw
          case rel => exact ⟨k + 1, by omega, by go_num, by rw [HT.out]; exact HO2.out, HG2.out⟩
          case measure => simp [intOf]; omega
    · rw [List.take_of_length_le (by omega)] at ho
      go_wp2
      go_ret
      exact ⟨_, rfl, ho, hB⟩
end Go.Proofs.YtpakjddfnhnndaaGreat

namespace Go.Proofs.YtpakjddfnhnndaaGreat
set_option linter.unusedSimpArgs false
set_option linter.unusedVariables false
set_option maxRecDepth 100000
open Go.RowKit

theorem rpermitted_is (N : Nat) (l : List E) (a al : Option Addr) (c cl : Nat) (w : World) (hN : N ≤ 65536) (hr : Rd w al l) (hw : wfL l) (r : Bool) (hp : permB N l = r) :
    Calls Tryz.prog 151 #[.slice a N c, .slice al l.length cl] w fun e w' => e = .returned (.bool r) ∧ Below w.heap.size w w' := by
  subst hp
  exact rpermitted_any N l a al c cl w hN hr hw
set_option maxRecDepth 100000 in
set_option maxHeartbeats 1000000 in
theorem radd_yes (C : List Int) (l : List E) (a al : Option Addr) (c cl : Nat) (w : World) (hrC : RdI w a C) (hr : Rd w al l) (hw : wfL l) (hp : permB C.length l = true) (hR : inR 0 1000000000 C) (hl : l.length ≤ 1000000000) :
    Calls Tryz.prog 117 #[.slice a C.length c, .slice al l.length cl] w fun e w' => ∃ v, e = .returned (.tuple #[v, .int .i64 0]) ∧ OwnI w' w.heap.size v (chgL C l 1) ∧ Below w.heap.size w w' := by
  have hC := hrC.1
  have HP := Lib.hid hp
  clear hp
  go_enter Tryz.func117, Tryz.ntmps117
  go_wp2_with fail
  refine (rpermitted_is C.length l a al c cl _ hC hr hw true HP.out).mono ?_
  rintro e w1 ⟨rfl, hb1⟩
  go_wp2_with fail
  refine (rchanged_any C l 1 a al c cl _ (hrC.keep hb1) (hr.keep hb1) HP.out (by omega) (inR_mono hR (by omega) (by omega)) hl).mono ?_
  rintro e w2 ⟨v, rfl, ho, hb2⟩
  go_wp2_with fail
  go_ret2
  exact ⟨_, rfl, ho.mono hb1.size, hb1.on hb2⟩
set_option maxRecDepth 100000 in
set_option maxHeartbeats 1000000 in
theorem radd_no (C : List Int) (l : List E) (a al : Option Addr) (c cl : Nat) (w : World) (hC : C.length ≤ 65536) (hr : Rd w al l) (hw : wfL l) (hp : permB C.length l = false) :
    Calls Tryz.prog 117 #[.slice a C.length c, .slice al l.length cl] w fun e w' => e = .returned (.tuple #[.slice none 0 0, .int .i64 2]) ∧ Below w.heap.size w w' := by
  have HP := Lib.hid hp
  clear hp
  go_enter Tryz.func117, Tryz.ntmps117
  go_wp2_with fail
  refine (rpermitted_is C.length l a al c cl _ hC hr hw false HP.out).mono ?_
  rintro e w1 ⟨rfl, hb1⟩
  go_wp2_with fail
  go_ret2
  exact ⟨rfl, hb1⟩
set_option maxRecDepth 100000 in
set_option maxHeartbeats 1000000 in
theorem rused_any (C : List Int) (a : Option Addr) (c : Nat) (w : World) (hrC : RdI w a C) (hR : inR 0 1000000000 C) :
    Calls Tryz.prog 124 #[.slice a C.length c] w fun e w' => e = .returned (.int .i64 (usedC C)) ∧ Below w.heap.size w w' := by
  have hC := hrC.1
  go_enter Tryz.func124, Tryz.ntmps124
  go_wp2_with fail
  go_loopw [3, 4] (fun r i wr => ∃ k : Nat, k ≤ C.length ∧ i = .int .i64 k ∧ r = .int .i64 (usedC (C.take k)) ∧ Below w.heap.size w wr) (fun _ i _ => C.length - (intOf i).toNat)
  case atStart => exact ⟨0, Nat.zero_le _, rfl, rfl, Below.refl _ _⟩
  case round =>
    obtain ⟨k, hk, rfl, rfl, hB⟩ := hrel
    by_cases hlt : k < C.length
    · obtain ⟨b, o, rfl, hat⟩ := (hrC.keep hB).at (by omega)
      have h1 := hat k _ (List.getElem?_eq_getElem hlt)
      have HT := Lib.hid (usedC_take C k hlt)
      obtain ⟨x1, x2⟩ := get_range hR hlt
      obtain ⟨s1, s2⟩ := used_bd (take_range hR k)
      have hle : (C.take k).length ≤ 65536 := Nat.le_trans (List.length_take_le _ _) (by omega)
      generalize C[k] = x at *
      generalize usedC (C.take k) = sm at *
      clear hat hrC
      have hsm : sm ≤ 65536 := by omega
      have hk0 : (0 : Int) ≤ k := by omega
      have hk1 : (k : Int) < C.length := by omega
      by_cases h0 : 0 < x
      · have hd : decide (0 < x) = true := decide_eq_true h0
        go_wp2
        go_roundw
        case rel => exact ⟨k + 1, by omega, by go_num, by rw [HT.out, Int.min_eq_right (by omega)], by (repeat (first | exact Below.refl _ _ | assumption | refine Below.onNext ?_ _ | refine Below.onAlloc ?_ _ | refine Below.setCell ?_ (by simp) _ | refine Below.drew ?_))⟩
        case measure => simp [intOf]; omega
      · have hd : decide (0 < x) = false := decide_eq_false h0
        go_wp2
        go_roundw
        case rel => exact ⟨k + 1, by omega, by go_num, by rw [HT.out, Int.min_eq_left (by omega), show x = 0 by omega]; go_num, by (repeat (first | exact Below.refl _ _ | assumption | refine Below.onNext ?_ _ | refine Below.onAlloc ?_ _ | refine Below.setCell ?_ (by simp) _ | refine Below.drew ?_))⟩
        case measure => simp [intOf]; omega
    · go_wp2
      go_ret
      exact ⟨ret_int (by rw [List.take_of_length_le (by omega)]), hB⟩

/-! ### Runs of marks -/
theorem wfE_single (k : Nat) (h : k ≤ 65536) : (single k).wf := by unfold single E.wf; refine ⟨?_, ?_, ?_⟩ <;> constructor <;> simp only <;> omega
set_option maxRecDepth 100000 in
set_option maxHeartbeats 2000000 in
theorem marked_any (M : List Bool) (a : Option Addr) (c : Nat) (w : World) (hrM : RdM w a M) :
    Calls Tryz.prog 153 #[.slice a M.length c] w fun e w' => ∃ v, e = .returned v ∧ OwnE w' w.heap.size v (runsL (picks (fun i => M.getD i false) M.length)) ∧ Below w.heap.size w w' := by
  have hM := hrM.1
  obtain ⟨i0, hi, hz0, hz1, hz2⟩ := info_parts infoE
  go_enter Tryz.func153, Tryz.ntmps153
  go_wp2_with fail
  go_loopw [3, 4] (fun v i wr => ∃ k : Nat, k ≤ M.length ∧ i = .int .i64 k ∧ OwnE wr w.heap.size v (picks (fun i => M.getD i false) k) ∧ Below w.heap.size w wr) (fun _ i _ => M.length - (intOf i).toNat)
  case atStart => exact ⟨0, Nat.zero_le _, rfl, OwnE.nil _ _, Below.refl _ _⟩
  case round =>
    obtain ⟨k, hk, rfl, ho, hB⟩ := hrel
    by_cases hlt : k < M.length
    · obtain ⟨b, o, rfl, hat⟩ := (hrM.keep hB).at (by omega)
      have h1 := hat k _ (getD_someM M k hlt)
      have hk0 : (0 : Int) ≤ k := by omega
      have hk1 : (k : Int) < M.length := by omega
      have hpl := picks_length (fun i => M.getD i false) k
      have hsz := hB.size
      cases hm : M.getD k false
      · rw [hm] at h1
        have HT := Lib.hid (picks_no (fun i => M.getD i false) k hm)
        have HO := Lib.hid ho
        clear hat hrM ho hm
        go_wp2
        go_roundw
        case rel => exact ⟨k + 1, by omega, by go_num, by rw [HT.out]; exact HO.out, hB⟩
        case measure => simp [intOf]; omega
      · rw [hm] at h1
        have HT := Lib.hid (picks_yes (fun i => M.getD i false) k hm)
        have HO := Lib.hid ho
        clear hat hrM ho hm
        generalize picks (fun i => M.getD i false) k = R at *
        go_wp2_with (at_builtin; refine wpList_append_x _ rfl _ _ 51 rfl w.heap.size 65 i0 (.agg #[.int .i64 0, .int .i64 0, .int .i64 0]) 3 24 Tryz.underlying51 hi hz0 hz1 hz2 rfl (by decide) _ _ _ rfl (World.ownsRow.alloc HO.out _) ⟨wr.heap.size, 0, none⟩ 1 1 (E.cells (single k)) rfl rfl (newE _ _ (by simp) _ _) (cellsE_one _) (by first | omega | (simp only [List.length_nil, List.length_append, List.length_cons]; omega)) (by first | (simp only [maxLen]; omega) | (simp only [maxLen, List.length_nil, List.length_append, List.length_cons]; omega)) (by simp only [World.size_alloc]; omega) ?_; intro v1 w1 hown1 hgrow1 hwhere1)
        have hB4 := Lib.hid ((hB.onAlloc (.cells #[.int .i64 0, .int .i64 1, .int .i64 k] 65)).onGrow hgrow1 fun j hj => (HO.out.lt j hj).1)
        have HO4 := Lib.hid (OwnE.snoc hown1 (by simp))
        clear hown1 hgrow1 hwhere1
        go_roundw
        case rel => exact ⟨k + 1, by omega, by go_num, by rw [HT.out]; exact HO4.out, hB4.out⟩
        case measure => simp [intOf]; omega
    · obtain rfl : k = M.length := by omega
      have hpl := picks_length (fun i => M.getD i false) M.length
      obtain ⟨a2, c2, rfl, hr2⟩ := ho.rd (by omega)
      have HW := Lib.hid (picks_wf (fun i => M.getD i false) M.length hM)
      generalize hRR : picks (fun i => M.getD i false) M.length = R at *
      have HQ := Lib.hid hRR
      clear ho hrM hRR
      go_wp2_with fail
      refine (rruns_any R _ _ _ hr2 HW.out).mono ?_
      rintro e w2 ⟨v, rfl, ho, hb2⟩
      have hsz := hB.size
      go_wp2_with fail
      go_ret
      exact ⟨_, rfl, by rw [HQ.out]; exact ho.mono hsz, hB.on hb2⟩

/-! ### Marks -/
/-- The marks of the first k of n slots. -/
def marks (f : Nat → Bool) (k n : Nat) : List Bool := (List.range n).map fun i => decide (i < k) && f i
theorem marks_length (f : Nat → Bool) (k n : Nat) : (marks f k n).length = n := by simp [marks]
theorem marks_zero (f : Nat → Bool) (n : Nat) : marks f 0 n = List.replicate n false := by
  apply List.ext_getElem
  · simp [marks]
  · intro i h1 h2
    simp [marks]
theorem marks_set (f : Nat → Bool) (k n : Nat) : (marks f k n).set k (f k) = marks f (k + 1) n := by
  apply List.ext_getElem
  · simp [marks]
  · intro i h1 h2
    simp only [marks, List.getElem_set, List.getElem_map, List.getElem_range]
    by_cases h : k = i
    · subst h; simp
    · rw [if_neg h]
      congr 1
      rw [Bool.eq_iff_iff]
      simp only [decide_eq_true_eq]
      omega
theorem marks_get (f : Nat → Bool) (n i : Nat) (h : i < n) : (marks f n n).getD i false = f i := by
  rw [List.getD_eq_getElem?_getD]
  simp [marks, h]
theorem marks_picks (f : Nat → Bool) (n : Nat) : picks (fun i => (marks f n n).getD i false) (marks f n n).length = picks f n := by
  rw [marks_length]
  exact picks_congr _ _ _ fun i hi => marks_get f n i hi

set_option maxRecDepth 100000 in
set_option maxHeartbeats 2000000 in
theorem rzero_any (C : List Int) (a : Option Addr) (c : Nat) (w : World) (hrC : RdI w a C) :
    Calls Tryz.prog 118 #[.slice a C.length c] w fun e w' => ∃ v, e = .returned v ∧ OwnE w' w.heap.size v (zeroL C) ∧ Below w.heap.size w w' := by
  have hC := hrC.1
  go_enter Tryz.func118, Tryz.ntmps118
  go_upto_region 2 with ((at_make; refine wpList_make_M _ rfl _ _ 151 rfl Tryz.underlying151 _ _ C.length rfl rfl (by omega) w.heap.size w.heap.size rfl (by omega) ?_; intro w1 ho1 hb1 hz1))
  rw [← marks_zero (zeroB C)] at ho1
  go_wp2_with fail
  go_loopw [4] (fun i wr => ∃ k : Nat, k ≤ C.length ∧ i = .int .i64 k ∧ OwnM wr w.heap.size (.slice (some ⟨w.heap.size, 0, none⟩) C.length C.length) (marks (zeroB C) k C.length) ∧ w1.grownBy wr (some w.heap.size)) (fun i _ => C.length - (intOf i).toNat)
  case atStart => exact ⟨0, Nat.zero_le _, rfl, ho1, World.grownBy.refl _ _⟩
  case round =>
    obtain ⟨k, hk, rfl, ho, hg⟩ := hrel
    have hB := hb1.onGrow hg (by intro j hj; simp at hj; omega)
    have HL := Lib.hid (marks_length (zeroB C) k C.length)
    by_cases hlt : k < C.length
    · obtain ⟨b, o, rfl, hat⟩ := (hrC.keep hB).at (by omega)
      have h1 := hat k _ (getD_some C k hlt)
      have hcell := ho.cells.1 k _ (getD_someM _ k (by rw [HL.out]; exact hlt))
      have hfree := ho.cells.2 k
      have HS := Lib.hid (marks_set (zeroB C) k C.length)
      have hk0 : (0 : Int) ≤ k := by omega
      have hk1 : (k : Int) < C.length := by omega
      obtain ⟨HO2, hg3⟩ := OwnM.set (by rw [HL.out]) ho k (zeroB C k)
      have HO2 := Lib.hid HO2
      rw [HS.out] at HO2
      have HG3 := Lib.hid (World.grownBy.next hg hg3)
      have hzb : zeroB C k = (C.getD k 0 == 0) := by unfold zeroB; rw [Bool.eq_iff_iff]; simp
      rw [hzb] at HO2 HG3
      generalize (marks (zeroB C) k C.length).getD k false = m0 at *
      generalize C.getD k 0 = x at *
      clear hat hrC ho hg hg3 ho1 hzb
      cases hx : (x == 0)
      all_goals
        rw [hx] at HO2 HG3
        go_wp2
        go_roundw
        case rel => exact ⟨k + 1, by omega, by go_num, HO2.out, HG3.out⟩
        case measure => simp [intOf]; omega
    · obtain rfl : k = C.length := by omega
      have HM := Lib.hid (marks_picks (zeroB C) C.length)
      obtain ⟨a2, c2, he, hr2⟩ := ho.rd (by rw [HL.out]; exact hC)
      injection he with he1 he2 he3
      subst he1
      clear he2 he3 c2 hrC ho ho1
      go_wp2_with fail
      have hcon := marked_any (marks (zeroB C) C.length C.length) (some ⟨w.heap.size, 0, none⟩) C.length _ hr2
      rw [HL.out] at hcon
      refine hcon.mono ?_
      rintro e w2 ⟨v, rfl, ho, hb2⟩
      have HO := Lib.hid ho
      clear ho hcon
      have hsz := hB.size
      go_wp2_with fail
      go_ret
      refine ⟨_, rfl, ?_, hB.on hb2⟩
      have := HO.out
      have hm := HM.out
      rw [HL.out] at hm
      rw [hm] at this
      exact this.mono hsz
end Go.Proofs.YtpakjddfnhnndaaGreat

namespace Go.Proofs.YtpakjddfnhnndaaGreat
set_option linter.unusedSimpArgs false
set_option linter.unusedVariables false
set_option maxRecDepth 100000
open Go.RowKit

/-- What Drop of the specification returns for counts C that become D. -/
def RDropPost (C D : List Int) (w : World) (e : Ending) (w' : World) : Prop :=
  Below w.heap.size w w' ∧ ((negB D = true ∧ e = .returned (.tuple #[.slice none 0 0, .slice none 0 0, .int .i64 8])) ∨
    (negB D = false ∧ ∃ v f, e = .returned (.tuple #[v, f, .int .i64 0]) ∧ OwnI w' w.heap.size v D ∧ OwnE w' w.heap.size f (runsL (picks (freeB C D) C.length))))
end Go.Proofs.YtpakjddfnhnndaaGreat

namespace Go.Proofs.YtpakjddfnhnndaaGreat
set_option linter.unusedSimpArgs false
set_option linter.unusedVariables false
set_option maxRecDepth 100000
open Go.RowKit

set_option maxRecDepth 100000 in
set_option maxHeartbeats 8000000 in
theorem single_any (C : List Int) (l : List E) (a al : Option Addr) (c cl : Nat) (w : World) (hrC : RdI w a C) (hr : Rd w al l) (hw : wfL l) :
    Calls Tryz.prog 68 #[.agg #[.slice a C.length c], .slice al l.length cl] w fun e w' => e = .returned (.int .i64 (singleC C l)) ∧ Below w.heap.size w w' := by
  have hC := hrC.1
  have hlen := hr.1
  have HWF := Lib.hid hw
  clear hw
  go_enter Tryz.func68, Tryz.ntmps68
  go_upto_region 2 with ((at_make; refine wpList_make_M _ rfl _ _ 151 rfl Tryz.underlying151 _ _ C.length rfl rfl (by omega) w.heap.size (w.heap.size + 1) (by simp) (by omega) ?_; intro w1 ho1 hb1 hz1))
  have hc1 := hb1.keep (a := ⟨w.heap.size, 0, none⟩) (by simp; rfl)
  have hB1 := ((Below.refl w.heap.size w).onAlloc (.cells #[.slice a C.length c] 25)).on hb1
  rw [← mk_false] at ho1
  obtain ⟨g, hg⟩ : ∃ g, g = w.heap.size + 1 := ⟨_, rfl⟩
  rw [← hg] at ho1 ⊢
  have hgw : w.heap.size < g := by omega
  have HG := Lib.hid hg
  clear hb1 hg
  go_wp2_with fail
  go_loopw [6, 17] (fun nv i wr => ∃ k : Nat, k ≤ l.length ∧ i = .int .i64 k ∧ nv = .int .i64 (area (fun i => listB (l.take k) i && oneB C i) C.length) ∧ OwnM wr w.heap.size (.slice (some ⟨g, 0, none⟩) C.length C.length) (mk (listB (l.take k)) C.length) ∧ w1.grownBy wr (some g)) (fun _ i _ => l.length - (intOf i).toNat)
  case atStart => exact ⟨0, Nat.zero_le _, rfl, by rw [area_false]; rfl; intro i _; rfl, ho1, World.grownBy.refl _ _⟩
  case round =>
    obtain ⟨k, hk, rfl, rfl, ho, hgr⟩ := hrel
    have hB := hB1.onGrow hgr (by intro j hj; simp at hj; omega)
    have hcr := hgr.cell hc1 (by simp; omega)
    by_cases hlt : k < l.length
    · obtain ⟨b, o, rfl, hat⟩ := (hr.keep hB).at (by omega)
      obtain ⟨h1, h2, h3⟩ := hat k _ (List.getElem?_eq_getElem hlt)
      obtain ⟨⟨b1, b2⟩, ⟨b3, b4⟩, ⟨b5, b6⟩⟩ := HWF.out _ (List.getElem_mem hlt)
      have HLT := Lib.hid (listB_take l k hlt)
      generalize l[k] = x at *
      generalize hLL : listB (l.take k) = L at *
      have har := area_le (fun i => L i && oneB C i) C.length
      obtain ⟨T, hT⟩ : ∃ T : Int, T = if 1 ≤ x.n then min (C.length : Int) (x.s + x.n) else 0 := ⟨_, rfl⟩
      obtain ⟨s0, hs0⟩ : ∃ s0 : Nat, (s0 : Int) = max x.s 0 := ⟨(max x.s 0).toNat, by omega⟩
      have HTT := Lib.hid hT
      have HS0 := Lib.hid hs0
      have HO := Lib.hid ho
      have HGR := Lib.hid hgr
      clear hat hr ho hgr hLL hT hs0 ho1
      generalize hnn : area (fun i => L i && oneB C i) C.length = nn at *
      have HNN := Lib.hid hnn
      clear hnn
      have hts : (0 : Int) ≤ s0 ∧ (s0 : Int) ≤ 9223372036854775807 := by have := HS0.out; omega
      have hss : (s0 : Int) ≤ max x.s 0 ∧ max x.s 0 ≤ (s0 : Int) := by have := HS0.out; omega
      have htN : T ≤ C.length := by have := HTT.out; split at this <;> omega
      by_cases hx : 1 ≤ x.n
      · have ht1 : T ≤ x.s + x.n := by have := HTT.out; rw [if_pos hx] at this; omega
        have ht3 : x.s + x.n ≤ T ∨ (C.length : Int) ≤ T := by have := HTT.out; rw [if_pos hx] at this; omega
        by_cases hs : x.s < 0
        · have d1 : decide (x.s < 0) = true := decide_eq_true hs
          go_wp2_with fail
          all_goals
            have hsz := (HO.out.lt g rfl).2
            have hgW : w1.grownBy (wr.alloc (.cells #[.int .i64 x.a, .int .i64 x.n, .int .i64 x.s] 65)) (some g) := World.grownBy.next HGR.out (World.grownBy_alloc _ _ _)
            have HOW := Lib.hid (HO.out.keep ((Below.refl _ _).onAlloc (.cells #[.int .i64 x.a, .int .i64 x.n, .int .i64 x.s] 65)))
            have hst : (0 : Int) = s0 := by have := HS0.out; omega
            have HST := Lib.hid hst
            clear hst
            generalize wr.alloc (.cells #[.int .i64 x.a, .int .i64 x.n, .int .i64 x.s] 65) = W0 at *
            have HGW := Lib.hid hgW
            clear hgW hsz
            go_loopw [6, 10] (fun nv t wi => ∃ p : Nat, s0 ≤ p ∧ ((p : Int) ≤ T ∨ p = s0) ∧ t = .int .i64 p ∧ nv = .int .i64 (area (fun i => seenB L s0 p i && oneB C i) C.length) ∧ OwnM wi w.heap.size (.slice (some ⟨g, 0, none⟩) C.length C.length) (mk (seenB L s0 p) C.length) ∧ w1.grownBy wi (some g)) (fun _ t _ => (T - (match t with | .int _ n => n | _ => 0)).toNat)
            case atStart =>
              refine ⟨s0, Nat.le_refl _, .inr rfl, by rw [HST.out], ?_, ?_, HGW.out⟩
              · rw [area_congr (fun i => seenB L s0 s0 i && oneB C i) (fun i => L i && oneB C i) _ fun i _ => by rw [seenB_zero L s0 s0 (Nat.le_refl _)], HNN.out]
              · rw [mk_congr (seenB L s0 s0) L _ fun i _ => seenB_zero L s0 s0 (Nat.le_refl _) i]
                exact HOW.out
            case round =>
              obtain ⟨p, hp1, hp2, rfl, rfl, hoi, hgi⟩ := hrel
              have hBi := hB1.onGrow hgi (by intro j hj; simp at hj; omega)
              have hci := hgi.cell hc1 (by simp; omega)
              by_cases hlp : (p : Int) < T
              · have hpN : p < C.length := by omega
                obtain ⟨b2, o2, he2, hat2⟩ := (hrC.keep hBi).at (by omega)
                have h4 := hat2 p _ (getD_some C p hpN)
                have hml := mk_length (seenB L s0 p) C.length
                have hcell := hoi.cells.1 p _ (getD_someM _ p (by rw [hml]; exact hpN))
                have hfree := hoi.cells.2 p
                rw [mk_get _ _ _ hpN] at hcell
                obtain ⟨HO2, hg3⟩ := OwnM.set (by rw [hml]) hoi p true
                rw [seen_step L s0 p C.length hp1] at HO2
                have HO2 := Lib.hid HO2
                have HG3 := Lib.hid (World.grownBy.next hgi hg3)
                have HSAME := Lib.hid (seen_same L C s0 p C.length hp1)
                have HMORE := Lib.hid (seen_more L C s0 p C.length hp1 hpN)
                have hob : oneB C p = (C.getD p 0 == 1) := by unfold oneB; rw [Bool.eq_iff_iff]; simp
                rw [hob] at HSAME HMORE
                have har2 := area_le (fun i => seenB L s0 p i && oneB C i) C.length
                generalize area (fun i => seenB L s0 p i && oneB C i) C.length = q at *
                generalize C.getD p 0 = y at *
                generalize seenB L s0 p p = sb at *
                subst he2
                clear hoi hgi hg3 hat2 hml hob
                cases sb
                · cases hy : (y == 1)
                  · have HE := Lib.hid (HSAME.out (by rw [hy]; rfl))
                    clear HSAME HMORE
                    go_wp2
                    go_roundw
                    case rel => exact ⟨p + 1, by omega, .inl (by omega), by go_num, by rw [HE.out], HO2.out, HG3.out⟩
                    case measure => simp <;> omega
                  · have HE := Lib.hid (HMORE.out rfl hy)
                    clear HSAME HMORE
                    go_wp2
                    go_roundw
                    case rel => exact ⟨p + 1, by omega, .inl (by omega), by go_num, by rw [HE.out]; go_num, HO2.out, HG3.out⟩
                    case measure => simp <;> omega
                · have HE := Lib.hid (HSAME.out rfl)
                  clear HSAME HMORE
                  go_wp2
                  go_roundw
                  case rel => exact ⟨p + 1, by omega, .inl (by omega), by go_num, by rw [HE.out], HO2.out, HG3.out⟩
                  case measure => simp <;> omega
              · have HOI := Lib.hid hoi
                have HGI := Lib.hid hgi
                have HALL := Lib.hid (fun i hi => seen_all L x s0 p C.length T HS0.out HTT.out hp1 (by omega) hp2 i hi)
                clear hoi hgi
                go_wp2_with fail
                go_roundw
                case rel =>
                  refine ⟨k + 1, by omega, by go_num, ?_, ?_, HGI.out⟩
                  · rw [area_congr (fun i => seenB L s0 p i && oneB C i) (fun i => listB (l.take (k + 1)) i && oneB C i) _ fun i hi => by rw [HALL.out i hi, HLT.out i]]
                  · rw [← mk_congr (seenB L s0 p) (listB (l.take (k + 1))) _ fun i hi => by rw [HALL.out i hi, HLT.out i]]
                    exact HOI.out
                case measure => simp [intOf]; omega
        · have d1 : decide (x.s < 0) = false := decide_eq_false hs
          by_cases hbig : (C.length : Int) ≤ x.s
          · go_wp2_with fail
            all_goals
              have hsz := (HO.out.lt g rfl).2
              have hgW : w1.grownBy (wr.alloc (.cells #[.int .i64 x.a, .int .i64 x.n, .int .i64 x.s] 65)) (some g) := World.grownBy.next HGR.out (World.grownBy_alloc _ _ _)
              have HOW := Lib.hid (HO.out.keep ((Below.refl _ _).onAlloc (.cells #[.int .i64 x.a, .int .i64 x.n, .int .i64 x.s] 65)))
              have hst : (x.s : Int) = s0 := by have := HS0.out; omega
              have HST := Lib.hid hst
              clear hst
              generalize wr.alloc (.cells #[.int .i64 x.a, .int .i64 x.n, .int .i64 x.s] 65) = W0 at *
              have HGW := Lib.hid hgW
              clear hgW hsz
              go_loopw [6, 10] (fun nv t wi => ∃ p : Nat, s0 ≤ p ∧ ((p : Int) ≤ T ∨ p = s0) ∧ t = .int .i64 p ∧ nv = .int .i64 (area (fun i => seenB L s0 p i && oneB C i) C.length) ∧ OwnM wi w.heap.size (.slice (some ⟨g, 0, none⟩) C.length C.length) (mk (seenB L s0 p) C.length) ∧ w1.grownBy wi (some g)) (fun _ t _ => (T - (match t with | .int _ n => n | _ => 0)).toNat)
              case atStart =>
                refine ⟨s0, Nat.le_refl _, .inr rfl, by rw [HST.out], ?_, ?_, HGW.out⟩
                · rw [area_congr (fun i => seenB L s0 s0 i && oneB C i) (fun i => L i && oneB C i) _ fun i _ => by rw [seenB_zero L s0 s0 (Nat.le_refl _)], HNN.out]
                · rw [mk_congr (seenB L s0 s0) L _ fun i _ => seenB_zero L s0 s0 (Nat.le_refl _) i]
                  exact HOW.out
              case round =>
                obtain ⟨p, hp1, hp2, rfl, rfl, hoi, hgi⟩ := hrel
                have hBi := hB1.onGrow hgi (by intro j hj; simp at hj; omega)
                have hci := hgi.cell hc1 (by simp; omega)
                by_cases hlp : (p : Int) < T
                · exfalso; omega
                · have HOI := Lib.hid hoi
                  have HGI := Lib.hid hgi
                  have HALL := Lib.hid (fun i hi => seen_all L x s0 p C.length T HS0.out HTT.out hp1 (by omega) hp2 i hi)
                  clear hoi hgi
                  go_wp2_with fail
                  go_roundw
                  case rel =>
                    refine ⟨k + 1, by omega, by go_num, ?_, ?_, HGI.out⟩
                    · rw [area_congr (fun i => seenB L s0 p i && oneB C i) (fun i => listB (l.take (k + 1)) i && oneB C i) _ fun i hi => by rw [HALL.out i hi, HLT.out i]]
                    · rw [← mk_congr (seenB L s0 p) (listB (l.take (k + 1))) _ fun i hi => by rw [HALL.out i hi, HLT.out i]]
                      exact HOI.out
                  case measure => simp [intOf]; omega
          · go_wp2_with fail
            all_goals
              have hsz := (HO.out.lt g rfl).2
              have hgW : w1.grownBy (wr.alloc (.cells #[.int .i64 x.a, .int .i64 x.n, .int .i64 x.s] 65)) (some g) := World.grownBy.next HGR.out (World.grownBy_alloc _ _ _)
              have HOW := Lib.hid (HO.out.keep ((Below.refl _ _).onAlloc (.cells #[.int .i64 x.a, .int .i64 x.n, .int .i64 x.s] 65)))
              have hst : (x.s : Int) = s0 := by have := HS0.out; omega
              have HST := Lib.hid hst
              clear hst
              generalize wr.alloc (.cells #[.int .i64 x.a, .int .i64 x.n, .int .i64 x.s] 65) = W0 at *
              have HGW := Lib.hid hgW
              clear hgW hsz
              go_loopw [6, 10] (fun nv t wi => ∃ p : Nat, s0 ≤ p ∧ ((p : Int) ≤ T ∨ p = s0) ∧ t = .int .i64 p ∧ nv = .int .i64 (area (fun i => seenB L s0 p i && oneB C i) C.length) ∧ OwnM wi w.heap.size (.slice (some ⟨g, 0, none⟩) C.length C.length) (mk (seenB L s0 p) C.length) ∧ w1.grownBy wi (some g)) (fun _ t _ => (T - (match t with | .int _ n => n | _ => 0)).toNat)
              case atStart =>
                refine ⟨s0, Nat.le_refl _, .inr rfl, by rw [HST.out], ?_, ?_, HGW.out⟩
                · rw [area_congr (fun i => seenB L s0 s0 i && oneB C i) (fun i => L i && oneB C i) _ fun i _ => by rw [seenB_zero L s0 s0 (Nat.le_refl _)], HNN.out]
                · rw [mk_congr (seenB L s0 s0) L _ fun i _ => seenB_zero L s0 s0 (Nat.le_refl _) i]
                  exact HOW.out
              case round =>
                obtain ⟨p, hp1, hp2, rfl, rfl, hoi, hgi⟩ := hrel
                have hBi := hB1.onGrow hgi (by intro j hj; simp at hj; omega)
                have hci := hgi.cell hc1 (by simp; omega)
                by_cases hlp : (p : Int) < T
                · have hpN : p < C.length := by omega
                  obtain ⟨b2, o2, he2, hat2⟩ := (hrC.keep hBi).at (by omega)
                  have h4 := hat2 p _ (getD_some C p hpN)
                  have hml := mk_length (seenB L s0 p) C.length
                  have hcell := hoi.cells.1 p _ (getD_someM _ p (by rw [hml]; exact hpN))
                  have hfree := hoi.cells.2 p
                  rw [mk_get _ _ _ hpN] at hcell
                  obtain ⟨HO2, hg3⟩ := OwnM.set (by rw [hml]) hoi p true
                  rw [seen_step L s0 p C.length hp1] at HO2
                  have HO2 := Lib.hid HO2
                  have HG3 := Lib.hid (World.grownBy.next hgi hg3)
                  have HSAME := Lib.hid (seen_same L C s0 p C.length hp1)
                  have HMORE := Lib.hid (seen_more L C s0 p C.length hp1 hpN)
                  have hob : oneB C p = (C.getD p 0 == 1) := by unfold oneB; rw [Bool.eq_iff_iff]; simp
                  rw [hob] at HSAME HMORE
                  have har2 := area_le (fun i => seenB L s0 p i && oneB C i) C.length
                  generalize area (fun i => seenB L s0 p i && oneB C i) C.length = q at *
                  generalize C.getD p 0 = y at *
                  generalize seenB L s0 p p = sb at *
                  subst he2
                  clear hoi hgi hg3 hat2 hml hob
                  cases sb
                  · cases hy : (y == 1)
                    · have HE := Lib.hid (HSAME.out (by rw [hy]; rfl))
                      clear HSAME HMORE
                      go_wp2
                      go_roundw
                      case rel => exact ⟨p + 1, by omega, .inl (by omega), by go_num, by rw [HE.out], HO2.out, HG3.out⟩
                      case measure => simp <;> omega
                    · have HE := Lib.hid (HMORE.out rfl hy)
                      clear HSAME HMORE
                      go_wp2
                      go_roundw
                      case rel => exact ⟨p + 1, by omega, .inl (by omega), by go_num, by rw [HE.out]; go_num, HO2.out, HG3.out⟩
                      case measure => simp <;> omega
                  · have HE := Lib.hid (HSAME.out rfl)
                    clear HSAME HMORE
                    go_wp2
                    go_roundw
                    case rel => exact ⟨p + 1, by omega, .inl (by omega), by go_num, by rw [HE.out], HO2.out, HG3.out⟩
                    case measure => simp <;> omega
                · have HOI := Lib.hid hoi
                  have HGI := Lib.hid hgi
                  have HALL := Lib.hid (fun i hi => seen_all L x s0 p C.length T HS0.out HTT.out hp1 (by omega) hp2 i hi)
                  clear hoi hgi
                  go_wp2_with fail
                  go_roundw
                  case rel =>
                    refine ⟨k + 1, by omega, by go_num, ?_, ?_, HGI.out⟩
                    · rw [area_congr (fun i => seenB L s0 p i && oneB C i) (fun i => listB (l.take (k + 1)) i && oneB C i) _ fun i hi => by rw [HALL.out i hi, HLT.out i]]
                    · rw [← mk_congr (seenB L s0 p) (listB (l.take (k + 1))) _ fun i hi => by rw [HALL.out i hi, HLT.out i]]
                      exact HOI.out
                  case measure => simp [intOf]; omega
      · have ht1 : T ≤ 0 := by have := HTT.out; rw [if_neg hx] at this; omega
        have ht3 : 0 ≤ T := by have := HTT.out; rw [if_neg hx] at this; omega
        by_cases hs : x.s < 0
        · have d1 : decide (x.s < 0) = true := decide_eq_true hs
          go_wp2_with fail
          all_goals
            have hsz := (HO.out.lt g rfl).2
            have hgW : w1.grownBy (wr.alloc (.cells #[.int .i64 x.a, .int .i64 x.n, .int .i64 x.s] 65)) (some g) := World.grownBy.next HGR.out (World.grownBy_alloc _ _ _)
            have HOW := Lib.hid (HO.out.keep ((Below.refl _ _).onAlloc (.cells #[.int .i64 x.a, .int .i64 x.n, .int .i64 x.s] 65)))
            have hst : (0 : Int) = s0 := by have := HS0.out; omega
            have HST := Lib.hid hst
            clear hst
            generalize wr.alloc (.cells #[.int .i64 x.a, .int .i64 x.n, .int .i64 x.s] 65) = W0 at *
            have HGW := Lib.hid hgW
            clear hgW hsz
            go_loopw [6, 10] (fun nv t wi => ∃ p : Nat, s0 ≤ p ∧ ((p : Int) ≤ T ∨ p = s0) ∧ t = .int .i64 p ∧ nv = .int .i64 (area (fun i => seenB L s0 p i && oneB C i) C.length) ∧ OwnM wi w.heap.size (.slice (some ⟨g, 0, none⟩) C.length C.length) (mk (seenB L s0 p) C.length) ∧ w1.grownBy wi (some g)) (fun _ t _ => (T - (match t with | .int _ n => n | _ => 0)).toNat)
            case atStart =>
              refine ⟨s0, Nat.le_refl _, .inr rfl, by rw [HST.out], ?_, ?_, HGW.out⟩
              · rw [area_congr (fun i => seenB L s0 s0 i && oneB C i) (fun i => L i && oneB C i) _ fun i _ => by rw [seenB_zero L s0 s0 (Nat.le_refl _)], HNN.out]
              · rw [mk_congr (seenB L s0 s0) L _ fun i _ => seenB_zero L s0 s0 (Nat.le_refl _) i]
                exact HOW.out
            case round =>
              obtain ⟨p, hp1, hp2, rfl, rfl, hoi, hgi⟩ := hrel
              have hBi := hB1.onGrow hgi (by intro j hj; simp at hj; omega)
              have hci := hgi.cell hc1 (by simp; omega)
              by_cases hlp : (p : Int) < T
              · exfalso; omega
              · have HOI := Lib.hid hoi
                have HGI := Lib.hid hgi
                have HALL := Lib.hid (fun i hi => seen_all L x s0 p C.length T HS0.out HTT.out hp1 (by omega) hp2 i hi)
                clear hoi hgi
                go_wp2_with fail
                go_roundw
                case rel =>
                  refine ⟨k + 1, by omega, by go_num, ?_, ?_, HGI.out⟩
                  · rw [area_congr (fun i => seenB L s0 p i && oneB C i) (fun i => listB (l.take (k + 1)) i && oneB C i) _ fun i hi => by rw [HALL.out i hi, HLT.out i]]
                  · rw [← mk_congr (seenB L s0 p) (listB (l.take (k + 1))) _ fun i hi => by rw [HALL.out i hi, HLT.out i]]
                    exact HOI.out
                case measure => simp [intOf]; omega
        · have d1 : decide (x.s < 0) = false := decide_eq_false hs
          by_cases hbig : (C.length : Int) ≤ x.s
          · go_wp2_with fail
            all_goals
              have hsz := (HO.out.lt g rfl).2
              have hgW : w1.grownBy (wr.alloc (.cells #[.int .i64 x.a, .int .i64 x.n, .int .i64 x.s] 65)) (some g) := World.grownBy.next HGR.out (World.grownBy_alloc _ _ _)
              have HOW := Lib.hid (HO.out.keep ((Below.refl _ _).onAlloc (.cells #[.int .i64 x.a, .int .i64 x.n, .int .i64 x.s] 65)))
              have hst : (x.s : Int) = s0 := by have := HS0.out; omega
              have HST := Lib.hid hst
              clear hst
              generalize wr.alloc (.cells #[.int .i64 x.a, .int .i64 x.n, .int .i64 x.s] 65) = W0 at *
              have HGW := Lib.hid hgW
              clear hgW hsz
              go_loopw [6, 10] (fun nv t wi => ∃ p : Nat, s0 ≤ p ∧ ((p : Int) ≤ T ∨ p = s0) ∧ t = .int .i64 p ∧ nv = .int .i64 (area (fun i => seenB L s0 p i && oneB C i) C.length) ∧ OwnM wi w.heap.size (.slice (some ⟨g, 0, none⟩) C.length C.length) (mk (seenB L s0 p) C.length) ∧ w1.grownBy wi (some g)) (fun _ t _ => (T - (match t with | .int _ n => n | _ => 0)).toNat)
              case atStart =>
                refine ⟨s0, Nat.le_refl _, .inr rfl, by rw [HST.out], ?_, ?_, HGW.out⟩
                · rw [area_congr (fun i => seenB L s0 s0 i && oneB C i) (fun i => L i && oneB C i) _ fun i _ => by rw [seenB_zero L s0 s0 (Nat.le_refl _)], HNN.out]
                · rw [mk_congr (seenB L s0 s0) L _ fun i _ => seenB_zero L s0 s0 (Nat.le_refl _) i]
                  exact HOW.out
              case round =>
                obtain ⟨p, hp1, hp2, rfl, rfl, hoi, hgi⟩ := hrel
                have hBi := hB1.onGrow hgi (by intro j hj; simp at hj; omega)
                have hci := hgi.cell hc1 (by simp; omega)
                by_cases hlp : (p : Int) < T
                · exfalso; omega
                · have HOI := Lib.hid hoi
                  have HGI := Lib.hid hgi
                  have HALL := Lib.hid (fun i hi => seen_all L x s0 p C.length T HS0.out HTT.out hp1 (by omega) hp2 i hi)
                  clear hoi hgi
                  go_wp2_with fail
                  go_roundw
                  case rel =>
                    refine ⟨k + 1, by omega, by go_num, ?_, ?_, HGI.out⟩
                    · rw [area_congr (fun i => seenB L s0 p i && oneB C i) (fun i => listB (l.take (k + 1)) i && oneB C i) _ fun i hi => by rw [HALL.out i hi, HLT.out i]]
                    · rw [← mk_congr (seenB L s0 p) (listB (l.take (k + 1))) _ fun i hi => by rw [HALL.out i hi, HLT.out i]]
                      exact HOI.out
                  case measure => simp [intOf]; omega
          · go_wp2_with fail
            all_goals
              have hsz := (HO.out.lt g rfl).2
              have hgW : w1.grownBy (wr.alloc (.cells #[.int .i64 x.a, .int .i64 x.n, .int .i64 x.s] 65)) (some g) := World.grownBy.next HGR.out (World.grownBy_alloc _ _ _)
              have HOW := Lib.hid (HO.out.keep ((Below.refl _ _).onAlloc (.cells #[.int .i64 x.a, .int .i64 x.n, .int .i64 x.s] 65)))
              have hst : (x.s : Int) = s0 := by have := HS0.out; omega
              have HST := Lib.hid hst
              clear hst
              generalize wr.alloc (.cells #[.int .i64 x.a, .int .i64 x.n, .int .i64 x.s] 65) = W0 at *
              have HGW := Lib.hid hgW
              clear hgW hsz
              go_loopw [6, 10] (fun nv t wi => ∃ p : Nat, s0 ≤ p ∧ ((p : Int) ≤ T ∨ p = s0) ∧ t = .int .i64 p ∧ nv = .int .i64 (area (fun i => seenB L s0 p i && oneB C i) C.length) ∧ OwnM wi w.heap.size (.slice (some ⟨g, 0, none⟩) C.length C.length) (mk (seenB L s0 p) C.length) ∧ w1.grownBy wi (some g)) (fun _ t _ => (T - (match t with | .int _ n => n | _ => 0)).toNat)
              case atStart =>
                refine ⟨s0, Nat.le_refl _, .inr rfl, by rw [HST.out], ?_, ?_, HGW.out⟩
                · rw [area_congr (fun i => seenB L s0 s0 i && oneB C i) (fun i => L i && oneB C i) _ fun i _ => by rw [seenB_zero L s0 s0 (Nat.le_refl _)], HNN.out]
                · rw [mk_congr (seenB L s0 s0) L _ fun i _ => seenB_zero L s0 s0 (Nat.le_refl _) i]
                  exact HOW.out
              case round =>
                obtain ⟨p, hp1, hp2, rfl, rfl, hoi, hgi⟩ := hrel
                have hBi := hB1.onGrow hgi (by intro j hj; simp at hj; omega)
                have hci := hgi.cell hc1 (by simp; omega)
                by_cases hlp : (p : Int) < T
                · exfalso; omega
                · have HOI := Lib.hid hoi
                  have HGI := Lib.hid hgi
                  have HALL := Lib.hid (fun i hi => seen_all L x s0 p C.length T HS0.out HTT.out hp1 (by omega) hp2 i hi)
                  clear hoi hgi
                  go_wp2_with fail
                  go_roundw
                  case rel =>
                    refine ⟨k + 1, by omega, by go_num, ?_, ?_, HGI.out⟩
                    · rw [area_congr (fun i => seenB L s0 p i && oneB C i) (fun i => listB (l.take (k + 1)) i && oneB C i) _ fun i hi => by rw [HALL.out i hi, HLT.out i]]
                    · rw [← mk_congr (seenB L s0 p) (listB (l.take (k + 1))) _ fun i hi => by rw [HALL.out i hi, HLT.out i]]
                      exact HOI.out
                  case measure => simp [intOf]; omega
    · rw [List.take_of_length_le (by omega)]
      go_wp2
      go_ret
      exact ⟨rfl, hB⟩
end Go.Proofs.YtpakjddfnhnndaaGreat
