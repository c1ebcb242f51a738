/-
  The specification tegularef35: change, Mark, Give.
  Conditions: as each theorem says.
-/
import Derived.Test.YtolhajkbamhdgaaAlR
import Derived.Test.YtolhajkbamhdgaaRcB
namespace Go.Proofs.Ytolhajkbamhdgaa
set_option linter.unusedSimpArgs false
set_option linter.unusedVariables false
open Go.RowKit

/-- What 'change' returns. -/
def ChgPost (M : List Bool) (l : List E) (u : Bool) (w : World) (e : Ending) (w' : World) : Prop :=
  Below w.heap.size w w' ∧ ((rangeB M.length l = false ∧ e = .returned (.tuple #[.slice none 0 0, .int .i64 2])) ∨
    (rangeB M.length l = true ∧ stN M l u ≠ 0 ∧ e = .returned (.tuple #[.slice none 0 0, .int .i64 8])) ∨
    (rangeB M.length l = true ∧ stN M l u = 0 ∧ ∃ v, e = .returned (.tuple #[v, .int .i64 0]) ∧ OwnM w' w.heap.size v (chgM M l u)))
theorem chg_range {M : List Bool} {l : List E} {u : Bool} {w w' : World} {e : Ending} (hb : Below w.heap.size w w') (h : rangeB M.length l = false) (he : e = .returned (.tuple #[.slice none 0 0, .int .i64 2])) : ChgPost M l u w e w' := ⟨hb, .inl ⟨h, he⟩⟩
theorem chg_state {M : List Bool} {l : List E} {u : Bool} {w w' : World} {e : Ending} (hb : Below w.heap.size w w') (h : rangeB M.length l = true) (h2 : stN M l u ≠ 0) (he : e = .returned (.tuple #[.slice none 0 0, .int .i64 8])) : ChgPost M l u w e w' := ⟨hb, .inr (.inl ⟨h, h2, he⟩)⟩
theorem chg_ok {M : List Bool} {l : List E} {u : Bool} {w w' : World} {e : Ending} {v : Value} (hb : Below w.heap.size w w') (h : rangeB M.length l = true) (h2 : stN M l u = 0) (ho : OwnM w' w.heap.size v (chgM M l u)) (he : e = .returned (.tuple #[v, .int .i64 0])) : ChgPost M l u w e w' := ⟨hb, .inr (.inr ⟨h, h2, v, he, ho⟩)⟩
theorem st_hit {M : List Bool} {l : List E} {u : Bool} (q : Nat) (hq : q < M.length) (h1 : listF l q = true) (h2 : M.getD q false = u) : stN M l u ≠ 0 := fun e => by
  have := (area_zero_iff _ _).1 e q hq
  rw [h1, h2] at this
  simp at this
/-- The new marks as far as a slot. -/
def chgTo (M : List Bool) (l : List E) (u : Bool) (q : Nat) : List Bool := mk (fun i => if (decide (i < q) && listF l i) = true then u else M.getD i false) M.length
theorem chgTo_zero (M : List Bool) (l : List E) (u : Bool) : chgTo M l u 0 = M := by
  unfold chgTo
  apply List.ext_getElem
  · simp [mk]
  · intro i h1 h2
    simp [mk]
    rw [List.getElem?_eq_getElem h2]
    rfl
theorem chgTo_all (M : List Bool) (l : List E) (u : Bool) : chgTo M l u M.length = chgM M l u := by
  unfold chgTo chgM
  exact mk_congr _ _ _ fun i hi => by simp [hi]
theorem chgTo_no (M : List Bool) (l : List E) (u : Bool) (q : Nat) (h : listF l q = false) : chgTo M l u (q + 1) = chgTo M l u q := by
  unfold chgTo
  refine mk_congr _ _ _ fun i hi => ?_
  by_cases he : i = q
  · subst he; rw [h]; simp
  · congr 2
    rw [Bool.eq_iff_iff]
    simp only [Bool.and_eq_true, decide_eq_true_eq]
    constructor
    · rintro ⟨a, b⟩; exact ⟨by omega, b⟩
    · rintro ⟨a, b⟩; exact ⟨by omega, b⟩
theorem chgTo_yes (M : List Bool) (l : List E) (u : Bool) (q : Nat) (h : listF l q = true) : (chgTo M l u q).set q u = chgTo M l u (q + 1) := by
  unfold chgTo
  rw [mk_set]
  refine mk_congr _ _ _ fun i hi => ?_
  by_cases he : i = q
  · subst he; rw [h]; simp
  · rw [if_neg he]
    congr 2
    rw [Bool.eq_iff_iff]
    simp only [Bool.and_eq_true, decide_eq_true_eq]
    constructor
    · rintro ⟨a, b⟩; exact ⟨by omega, b⟩
    · rintro ⟨a, b⟩; exact ⟨by omega, b⟩
theorem chgTo_length (M : List Bool) (l : List E) (u : Bool) (q : Nat) : (chgTo M l u q).length = M.length := mk_length _ _
theorem perm_next (N : Nat) (l : List E) (k : Nat) (h : k < l.length) (hp : permB N (l.take k) = true) (hx : 1 ≤ l[k].n ∧ 0 ≤ l[k].s ∧ l[k].s + l[k].n ≤ N) : permB N (l.take (k + 1)) = true := by
  rw [permB_take N l k h, hp, decide_eq_true hx]
  rfl
theorem listF_next (l : List E) (k s n : Nat) (a : Int) (h : k < l.length) (hx : l[k] = ⟨a, n, s⟩) (N : Nat) : mk (seenB (listF (l.take k)) s (s + n)) N = mk (listF (l.take (k + 1))) N := by
  refine mk_congr _ _ _ fun i _ => ?_
  rw [listF_take l k h, hx]
  unfold seenB inX
  congr 1
  rw [Bool.eq_iff_iff]
  simp only [Bool.and_eq_true, decide_eq_true_eq]
  omega
set_option maxRecDepth 100000 in
set_option maxHeartbeats 8000000 in
theorem qchange_any (M : List Bool) (l : List E) (u : Bool) (a al : Option Addr) (c cl : Nat) (w : World) (hrM : RdM w a M) (hN : M.length ≤ 65536) (hr : Rd w al l) (hw : wfL l) :
    Calls Try.prog 100 #[.slice a M.length c, .slice al l.length cl, .bool u] w (ChgPost M l u w) := by
  have hlen := hr.1
  have HWF := Lib.hid hw
  have H0 := Lib.hid (OwnM.empty w w.heap.size (Nat.le_refl _))
  have HS := Lib.hid ((hrM.keep ((Below.refl _ _).onAlloc (.cells #[] 4))).source)
  obtain ⟨i0, hi, hz0, hz1, hz2⟩ := info_parts infoM
  clear hw
  go_enter Try.func100, Try.ntmps100
  go_upto_region 2 with (at_builtin; refine wpList_append_xs _ rfl _ _ 67 rfl w.heap.size 4 i0 (.bool false) 1 1 Try.underlying67 hi hz0 hz1 hz2 rfl (by decide) (.slice (some ⟨w.heap.size, 0, none⟩) 0 0) _ _ rfl H0.out _ _ _ _ rfl HS.out (by simp only [List.length_nil]; omega) (by simp only [maxLen, List.length_nil]; omega) (by simp only [World.size_alloc]; omega) ?_; intro v1 w1 hown1 hgrow1 hwhere1)
  have ho := OwnM.append (C := []) hown1 (by simp)
  rw [List.nil_append] at ho
  have HB := ((Below.refl w.heap.size w).onAlloc (.cells #[] 4)).onGrow hgrow1 (fun j hj => (H0.out.lt j hj).1)
  obtain ⟨g, c1, rfl, hg1, hg2, _⟩ := ho.form.resolve_left (by rintro ⟨rfl, _⟩; simp [Value.ownBlock] at hwhere1)
  have HO := Lib.hid ho
  clear hown1 hgrow1 hwhere1 ho
  go_upto_region 3 with ((at_make; refine wpList_make_M _ rfl _ _ 66 rfl Try.underlying66 _ _ M.length rfl rfl (by omega) w.heap.size w1.heap.size rfl (by omega) ?_; intro w2 ho2 hb2 hz))
  rw [← mk_false] at ho2
  have HO2 := Lib.hid ho2
  have HOut := Lib.hid (HO.out.keep hb2)
  have hB2 := HB.on hb2
  generalize hG : w1.heap.size = G at *
  have HG := Lib.hid hG
  have hgG : g < G := by omega
  have hwG : w.heap.size ≤ G := by omega
  have HBB := Lib.hid hB2
  clear hG hb2 HB HO ho2
  go_wp2_with fail
  go_loopw [10] (fun i wr => ∃ k : Nat, k ≤ l.length ∧ i = .int .i64 k ∧ permB M.length (l.take k) = true ∧ gapN M.length (l.take k) = 0 ∧ OwnM wr w.heap.size (.slice (some ⟨G, 0, none⟩) M.length M.length) (mk (listF (l.take k)) M.length) ∧ w2.grownBy wr (some G)) (fun i _ => l.length - (intOf i).toNat)
  case atStart => exact ⟨0, Nat.zero_le _, rfl, rfl, gap_nil _, HO2.out, World.grownBy.refl _ _⟩
  case round =>
    obtain ⟨k, hk, rfl, hp, hgap, hoL, hgr⟩ := hrel
    have hB := HBB.out.onGrow hgr (by intro j hj; simp at hj; omega)
    by_cases hlt : k < l.length
    · obtain ⟨b, o, rfl, hat⟩ := (hr.keep hB).at (by omega)
      obtain ⟨h1, h2, h3⟩ := hat k _ (List.getElem?_eq_getElem hlt)
      have hbG : ¬ b = G := by
        obtain ⟨b', o', he, hat'⟩ := hr.at (by omega)
        injection he with he
        injection he with he
        subst he
        have := World.block_lt_of_cell? w _ (hat' k _ (List.getElem?_eq_getElem hlt)).n
        simp at this
        omega
      obtain ⟨⟨b1, b2⟩, ⟨b3, b4⟩, ⟨b5, b6⟩⟩ := HWF.out _ (List.getElem_mem hlt)
      have HBad := Lib.hid (range_perm (N := M.length) k hlt)
      have HClash := Lib.hid (range_clash hN k hlt)
      have HPN := Lib.hid (perm_next M.length l k hlt hp)
      have HGN := Lib.hid (fun hx h => (gap_next (N := M.length) k hlt hx h).trans hgap)
      have HLN := Lib.hid (listF_next l k)
      have hk0 : (0 : Int) ≤ k := by omega
      have hk1 : (k : Int) < l.length := by omega
      generalize hx : l[k] = x at *
      have HX := Lib.hid hx
      have HOL := Lib.hid hoL
      have HGR := Lib.hid hgr
      clear hat hr hp hgap hoL hgr hx
      obtain ⟨xa, xn, xs⟩ := x
      simp only at h1 h2 h3 b1 b2 b3 b4 b5 b6 HBad HPN HGN
      by_cases d1 : xn < 1
      · have e1 : decide (xn < 1) = true := decide_eq_true d1
        have HF := Lib.hid (HBad.out (by omega))
        go_wp2_with fail
        refine wp_region_next (by kernel_rfl) (by kernel_rfl) ?_
        repeat (go_big_quiet_step (fail))
        refine wpQuiet_nil ?_
        intro _ hw'
        obtain ⟨nq, hw''⟩ := hw'
        subst hw''
        go_wp2_with fail
        go_ret2
        exact chg_range (hB.onNext _) HF.out rfl
      have e1 : decide (xn < 1) = false := decide_eq_false d1
      by_cases d2 : xs < 0
      · have e2 : decide (xs < 0) = true := decide_eq_true d2
        have HF := Lib.hid (HBad.out (by omega))
        go_wp2_with fail
        refine wp_region_next (by kernel_rfl) (by kernel_rfl) ?_
        repeat (go_big_quiet_step (fail))
        refine wpQuiet_nil ?_
        intro _ hw'
        obtain ⟨nq, hw''⟩ := hw'
        subst hw''
        go_wp2_with fail
        go_ret2
        exact chg_range (hB.onNext _) HF.out rfl
      have e2 : decide (xs < 0) = false := decide_eq_false d2
      by_cases d3 : (M.length : Int) ≤ xs
      · have e3 : decide ((M.length : Int) ≤ xs) = true := decide_eq_true d3
        have HF := Lib.hid (HBad.out (by omega))
        go_wp2_with fail
        refine wp_region_next (by kernel_rfl) (by kernel_rfl) ?_
        repeat (go_big_quiet_step (fail))
        refine wpQuiet_nil ?_
        intro _ hw'
        obtain ⟨nq, hw''⟩ := hw'
        subst hw''
        go_wp2_with fail
        go_ret2
        exact chg_range (hB.onNext _) HF.out rfl
      have e3 : decide ((M.length : Int) ≤ xs) = false := decide_eq_false d3
      by_cases d4 : (M.length : Int) - xs < xn
      · have e4 : decide ((M.length : Int) - xs < xn) = true := decide_eq_true d4
        have HF := Lib.hid (HBad.out (by omega))
        go_wp2_with fail
        refine wp_region_next (by kernel_rfl) (by kernel_rfl) ?_
        repeat (go_big_quiet_step (fail))
        refine wpQuiet_nil ?_
        intro _ hw'
        obtain ⟨nq, hw''⟩ := hw'
        subst hw''
        go_wp2_with fail
        go_ret2
        exact chg_range (hB.onNext _) HF.out rfl
      have e4 : decide ((M.length : Int) - xs < xn) = false := decide_eq_false d4
      have HPk := Lib.hid (HPN.out (by omega))
      have HGk := Lib.hid (HGN.out (by omega))
      have HLk := Lib.hid (fun s n => HLN.out s n xa hlt)
      clear HBad HPN HGN HLN
      go_wp2_with fail
      refine wp_region_next (by kernel_rfl) (by kernel_rfl) ?_
      repeat (go_big_quiet_step (fail))
      refine wpQuiet_nil ?_
      intro _ hw'
      obtain ⟨nq, hw''⟩ := hw'
      subst hw''
      have hb9 := World.below_next wr nq
      have HOW := Lib.hid (HOL.out.keep hb9)
      have hy1 := hb9.keep h1
      have hy2 := hb9.keep h2
      have hy3 := hb9.keep h3
      have HGW := Lib.hid (World.grownBy.behind HGR.out hb9)
      generalize wr.next nq = W0 at *
      clear hb9 h1 h2 h3 HOL HGR
      obtain ⟨s, rfl⟩ := Int.eq_ofNat_of_zero_le (show 0 ≤ xs by omega)
      obtain ⟨n, rfl⟩ := Int.eq_ofNat_of_zero_le (show 0 ≤ xn by omega)
      go_wp2_with fail
      generalize hL : listF (l.take k) = L at *
      have HL := Lib.hid hL
      clear hL
      go_loopw [11] (fun t wi => ∃ p : Nat, s ≤ p ∧ p ≤ s + n ∧ t = .int .i64 p ∧ (∀ q, s ≤ q → q < p → L q = false) ∧ OwnM wi w.heap.size (.slice (some ⟨G, 0, none⟩) M.length M.length) (mk (seenB L s p) M.length) ∧ W0.grownBy wi (some G)) (fun t _ => s + n - (intOf t).toNat)
      case atStart =>
        refine ⟨s, Nat.le_refl _, by omega, rfl, fun q h1 h2 => absurd h1 (by omega), ?_, World.grownBy.refl _ _⟩
        rw [mk_congr (seenB L s s) L _ fun i _ => seenB_zero L s s (Nat.le_refl _) i]
        exact HOW.out
      case round =>
        obtain ⟨p, hp1, hp2, rfl, hno, hoi, hgi⟩ := hrel
        have y1 := hgi.cell hy2 (by simpa using hbG)
        have y2 := hgi.cell hy3 (by simpa using hbG)
        have HNO := Lib.hid hno
        have HOI := Lib.hid hoi
        have HGI := Lib.hid hgi
        clear hno hoi hgi
        by_cases hlp : p < s + n
        · have hlpb : decide ((p : Int) < ↑s + ↑n) = true := decide_eq_true (by omega)
          have hpN : p < M.length := by omega
          go_wp2_with fail
          refine wp_region_next (by kernel_rfl) (by kernel_rfl) ?_
          repeat (go_big_quiet_step (fail))
          refine wpQuiet_nil ?_
          intro _ hw'
          obtain ⟨nq, hw''⟩ := hw'
          subst hw''
          generalize hW : World.next _ nq = W1
          have hb1 : Below wr.heap.size wr W1 := by rw [← hW]; exact World.below_next _ _
          have hoi1 := HOI.out.keep hb1
          have hml := mk_length (seenB L s p) M.length
          have hcell := hoi1.cells.1 p _ (getD_someM _ p (by rw [hml]; exact hpN))
          have hfree := hoi1.cells.2 p
          rw [mk_get _ _ _ hpN, seenB_at L s p p (Nat.le_refl _)] at hcell
          obtain ⟨HO2, hg3⟩ := OwnM.set (by rw [hml]) hoi1 p true
          rw [seen_step L s p M.length hp1] at HO2
          have HO2 := Lib.hid HO2
          have HG3 := Lib.hid (World.grownBy.next (World.grownBy.behind HGI.out hb1) hg3)
          have HB9 := Lib.hid (HBB.out.onGrow (World.grownBy.next HGW.out (World.grownBy.behind HGI.out hb1)) (by intro j hj; simp at hj; omega))
          have HCL := Lib.hid (HClash.out p hpN)
          generalize hLp : L p = bit at *
          have HLP := Lib.hid hLp
          clear hoi1 hg3 hml hLp hW hb1
          cases bit
          · go_wp2_with fail
            go_roundw
            case rel => exact ⟨p + 1, by omega, by omega, by go_num, fun q h1 h2 => (by
              by_cases he : q = p
              · subst he; exact HLP.out
              · exact HNO.out q h1 (by omega)), HO2.out, HG3.out⟩
            case measure => simp [intOf]; omega
          · have HF := Lib.hid (HCL.out rfl ((inX_iff _ _).2 ⟨by simp only; omega, by simp only; omega⟩))
            go_wp2_with fail
            go_ret2
            exact chg_range HB9.out HF.out rfl
        · have hlpb : decide ((p : Int) < ↑s + ↑n) = false := decide_eq_false (by omega)
          obtain rfl : p = s + n := by omega
          have HN2 := Lib.hid (HLk.out s n HX.out M.length)
          have HG2 := Lib.hid (HGk.out (fun q hq hin => by
            have := (inX_iff _ _).1 hin
            simp only at this
            exact HNO.out q (by omega) (by omega)))
          go_wp2_with fail
          refine wp_region_next (by kernel_rfl) (by kernel_rfl) ?_
          repeat (go_big_quiet_step (fail))
          refine wpQuiet_nil ?_
          intro _ hw'
          obtain ⟨nq, hw''⟩ := hw'
          subst hw''
          generalize hW : World.next _ nq = W1
          have hb1 : Below wr.heap.size wr W1 := by rw [← hW]; exact World.below_next _ _
          have HO2 := Lib.hid (HOI.out.keep hb1)
          rw [HN2.out] at HO2
          have HG3 := Lib.hid (World.grownBy.next HGW.out (World.grownBy.behind HGI.out hb1))
          clear hW hb1
          go_wp2_with fail
          go_roundw
          case rel => exact ⟨k + 1, by omega, by go_num, HPk.out, HG2.out, HO2.out, HG3.out⟩
          case measure => simp [intOf]; omega
    · obtain rfl : k = l.length := by omega
      rw [List.take_length] at hp hgap hoL
      have HR := Lib.hid (range_yes hN hp hgap)
      have HOut2 := Lib.hid (HOut.out.other hgr (.inr (by simp [Value.ownBlock]; omega)))
      have HLs := Lib.hid hoL
      have hB9 := hB
      clear hp hgap hoL hgr HOut HWF hr HBB hlt
      go_wp2_with fail
      obtain ⟨W0, rfl⟩ : ∃ W0 : World, W0 = wr := ⟨_, rfl⟩
      go_loopw [12] (fun t wi => ∃ q : Nat, q ≤ M.length ∧ t = .int .i64 q ∧ (∀ i, i < q → listF l i = true → M.getD i false ≠ u) ∧ OwnM wi w.heap.size (.slice (some ⟨g, 0, none⟩) M.length c1) (chgTo M l u q) ∧ W0.grownBy wi (some g)) (fun t _ => M.length - (intOf t).toNat)
      case atStart => exact ⟨0, Nat.zero_le _, rfl, fun i hi => absurd hi (by omega), by rw [chgTo_zero]; exact HOut2.out, World.grownBy.refl _ _⟩
      case round =>
        obtain ⟨q, hq, rfl, hall, hoq, hgq⟩ := hrel
        have HB8 := Lib.hid (hB9.onGrow hgq (by intro j hj; simp at hj; omega))
        have HA := Lib.hid hall
        by_cases hlq : q < M.length
        · obtain ⟨bm, om, rfl, hatm⟩ := (hrM.keep HB8.out).at (by omega)
          have hm := hatm q _ (getD_someM M q hlq)
          have hll := (HLs.out.other hgq (.inr (by simp [Value.ownBlock]; omega))).cells.1 q _ (getD_someM _ q (by rw [mk_length]; exact hlq))
          rw [mk_get _ _ _ hlq] at hll
          have hfree := hoq.cells.2 q
          have hcur := hoq.cells.1 q _ (getD_someM _ q (by rw [chgTo_length]; exact hlq))
          have HNo := Lib.hid (chgTo_no M l u q)
          have HYes := Lib.hid (chgTo_yes M l u q)
          obtain ⟨ho3, hg3⟩ := OwnM.set (by rw [chgTo_length]) hoq q u
          have HO3 := Lib.hid ho3
          have HOQ := Lib.hid hoq
          have HGQ := Lib.hid hgq
          have HG3 := Lib.hid (World.grownBy.next hgq hg3)
          have HHit := Lib.hid (st_hit (M := M) (l := l) (u := u) q hlq)
          generalize hlb : listF l q = bit at *
          have HLB := Lib.hid hlb
          generalize hmb : M.getD q false = y at *
          have HMB := Lib.hid hmb
          clear hatm hall hoq hgq ho3 hg3 hlb hmb HLs HOut2 hrM
          cases bit
          · go_wp2_with fail
            go_roundw
            case rel => exact ⟨q + 1, by omega, by go_num, fun i h1 h2 => (by
              by_cases he : i = q
              · subst he; rw [HLB.out] at h2; cases h2
              · exact HA.out i (by omega) h2), by rw [HNo.out rfl]; exact HOQ.out, HGQ.out⟩
            case measure => simp [intOf]; omega
          · by_cases hyu : y = u
            · have hyb : (y == u) = true := by rw [hyu]; simp
              have HF := Lib.hid (HHit.out rfl hyu)
              clear hyu
              go_wp2_with fail
              go_ret2
              exact chg_state HB8.out HR.out HF.out rfl
            · have hyb : (y == u) = false := by simpa using hyu
              have HU := Lib.hid hyu
              clear hyu
              go_wp2_with fail
              go_roundw
              case rel => exact ⟨q + 1, by omega, by go_num, fun i h1 h2 => (by
                by_cases he : i = q
                · subst he; rw [HMB.out]; exact HU.out
                · exact HA.out i (by omega) h2), by rw [← HYes.out rfl]; exact HO3.out, HG3.out⟩
              case measure => simp [intOf]; omega
        · obtain rfl : q = M.length := by omega
          rw [chgTo_all] at hoq
          have HOQ := Lib.hid hoq
          have HF : Hid (stN M l u = 0) := Lib.hid ((area_zero_iff _ _).2 fun i hi => by
            cases h1 : listF l i
            · rfl
            · have := HA.out i hi h1
              simpa using this)
          clear hall hoq hgq
          go_wp2_with fail
          go_ret2
          exact chg_ok HB8.out HR.out HF.out HOQ.out rfl
end Go.Proofs.Ytolhajkbamhdgaa
