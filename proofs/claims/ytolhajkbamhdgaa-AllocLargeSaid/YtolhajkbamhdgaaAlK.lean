/-
  The walk of the law AllocRestores.
  Conditions: none beyond that the arguments can be read.
-/
import Derived.Test.YtolhajkbamhdgaaAlX
namespace Go.Proofs.Ytolhajkbamhdgaa
set_option linter.unusedSimpArgs false
set_option linter.unusedVariables false
open Go.RowKit

/-! ### Giving back what was taken -/
theorem chg_mark {M : List Bool} {l : List E} (i : Nat) (hi : i < M.length) (u : Bool) : (chgM M l u).getD i false = if listF l i then u else M.getD i false := by
  unfold chgM
  rw [mk_get _ _ _ hi]
theorem back_is {M : List Bool} {l : List E} (h : ∀ i, listF l i = true → freeF M i = true) : chgM (chgM M l true) l false = M := by
  have hl : (chgM (chgM M l true) l false).length = M.length := by rw [chgM_length, chgM_length]
  refine List.ext_getElem hl fun i h1 h2 => ?_
  have e1 : (chgM (chgM M l true) l false).getD i false = M.getD i false := by
    rw [chg_mark i (by rw [chgM_length]; exact h2), chg_mark i h2]
    cases hb : listF l i
    · simp
    · have := h i hb
      rw [freeF_in M i h2] at this
      simp at this
      rw [if_pos rfl, List.getD_eq_getElem?_getD, this]
  rw [List.getD_eq_getElem?_getD, List.getD_eq_getElem?_getD, List.getElem?_eq_getElem h1, List.getElem?_eq_getElem h2] at e1
  exact e1
theorem back_st {M : List Bool} {l : List E} (hp : permB M.length l = true) : stN (chgM M l true) l false = 0 := by
  unfold stN
  rw [area_zero_iff]
  intro i hi
  rw [chgM_length] at hi
  cases hb : listF l i
  · rfl
  · rw [chg_mark i hi, hb]
    rfl
theorem area_back {M : List Bool} {l : List E} (h : ∀ i, listF l i = true → freeF M i = true) : area (freeF (chgM M l true)) M.length + area (listF l) M.length = area (freeF M) M.length := by
  have h1 := area_split (freeF M) (listF l) M.length
  have h2 : area (fun i => freeF M i && listF l i) M.length = area (listF l) M.length := area_congr _ _ _ fun i _ => by
    cases hb : listF l i
    · simp
    · rw [h i hb]; rfl
  have h3 : area (fun i => freeF M i && !listF l i) M.length = area (freeF (chgM M l true)) M.length := area_congr _ _ _ fun i hi => by
    rw [free_chg M l true i hi]
    cases listF l i <;> simp
  omega
theorem taken_area {M : List Bool} {n : Nat} {l : List E} (hN : M.length ≤ 65536) (h : Taken M n l) : area (listF l) M.length = n := by
  have h1 := (range_parts hN h.range).2.2
  have h2 := h.len
  unfold gapN at h1
  omega

theorem agive_is (M : List Bool) (N : Nat) (l : List E) (a al : Option Addr) (c cl : Nat) (w : World) (hl' : M.length = N) (hN : M.length ≤ 65536) (hrR : Rd w a (freeR M)) (hr : Rd w al l) (hw : wfL l) (hl : l.length ≤ 1000000) (h1 : rangeB N l = true) (h2 : stN M l false = 0) (M2 : List Bool) (h3 : chgM M l false = M2) :
    Calls Try.prog 47 #[.agg #[.int .i64 N, .slice a (freeR M).length c], .slice al l.length cl] w fun e w' => ∃ a' c', e = .returned (.tuple #[.agg #[.int .i64 N, .slice a' (freeR M2).length c'], .int .i64 0]) ∧ Rd w' a' (freeR M2) ∧ Below w.heap.size w w' := by
  subst hl' h3
  refine (agive_any M l a al c cl w hN hrR hr hw hl).mono fun e w' h => ?_
  obtain ⟨hb, ⟨h, _⟩ | ⟨_, h, _⟩ | ⟨_, _, v, he, a', c', rfl, hr', _⟩⟩ := h
  · rw [h1] at h; cases h
  · exact absurd h2 h
  · exact ⟨a', c', he, hr', hb⟩
/-- m lies in block X, the request in block B. -/
structure TkU (w0 W : World) (X : Nat) (M : List Bool) (a : Option Addr) (c : Nat) (f g : Int) (an : Option Addr) : Prop where
  t0 : W.cell? ⟨X, 0, none⟩ = some (.int .i64 M.length)
  t1 : W.cell? ⟨X, 1, none⟩ = some (.slice a (freeR M).length c)
  r : Rd W a (freeR M)
  n : RdM W an M
  q0 : W.cell? ⟨w0.heap.size, 0, none⟩ = some (.int .u8 f)
  q1 : W.cell? ⟨w0.heap.size, 1, none⟩ = some (.int .u8 g)
  B : Below w0.heap.size w0 W
theorem TkU.later {w0 W W' : World} {X : Nat} {M : List Bool} {a an : Option Addr} {c : Nat} {f g : Int} (h : TkU w0 W X M a c f g an) (hb : Below W.heap.size W W') : TkU w0 W' X M a c f g an :=
  ⟨hb.keep h.t0, hb.keep h.t1, h.r.keep hb, h.n.keep hb, hb.keep h.q0, hb.keep h.q1, h.B.on hb⟩
/-- m lies in block X, x in block Y, the request in block B. -/
structure RsS (w0 W : World) (X Y : Nat) (M M' : List Bool) (l : List E) (a a' an al : Option Addr) (c c' : Nat) (f g : Int) : Prop where
  t0 : W.cell? ⟨X, 0, none⟩ = some (.int .i64 M.length)
  t1 : W.cell? ⟨X, 1, none⟩ = some (.slice a (freeR M).length c)
  x0 : W.cell? ⟨Y, 0, none⟩ = some (.int .i64 M.length)
  x1 : W.cell? ⟨Y, 1, none⟩ = some (.slice a' (freeR M').length c')
  q0 : W.cell? ⟨w0.heap.size, 0, none⟩ = some (.int .u8 f)
  q1 : W.cell? ⟨w0.heap.size, 1, none⟩ = some (.int .u8 g)
  r : Rd W a (freeR M)
  rx : Rd W a' (freeR M')
  n : RdM W an M
  l : Rd W al l
  B : Below w0.heap.size w0 W
theorem RsS.later {w0 W W' : World} {X Y : Nat} {M M' : List Bool} {l : List E} {a a' an al : Option Addr} {c c' : Nat} {f g : Int} (h : RsS w0 W X Y M M' l a a' an al c c' f g) (hb : Below W.heap.size W W') : RsS w0 W' X Y M M' l a a' an al c c' f g :=
  ⟨hb.keep h.t0, hb.keep h.t1, hb.keep h.x0, hb.keep h.x1, hb.keep h.q0, hb.keep h.q1, h.r.keep hb, h.rx.keep hb, h.n.keep hb, h.l.keep hb, h.B.on hb⟩
theorem lenL_le {l : List E} (h : ∀ x ∈ l, 0 ≤ x.n) (k : Nat) : lenL (l.take k) ≤ lenL l := by
  conv => rhs; rw [← List.take_append_drop k l]
  rw [lenL_append]
  have : ∀ r : List E, (∀ x ∈ r, 0 ≤ x.n) → 0 ≤ lenL r := fun r => by
    induction r with
    | nil => intro _; simp [lenL]
    | cons x r ih =>
      intro h
      have h1 := h x (by simp)
      have h2 := ih fun y hy => h y (by simp [hy])
      rw [lenL_cons]; omega
  have := this (l.drop k) fun x hx => h x (List.mem_of_mem_drop hx)
  omega
set_option maxRecDepth 100000 in
set_option maxHeartbeats 8000000 in
theorem law_restores35 (i f g : Int) (S : List Step35) (a : Option Addr) (c : Nat) (w : World) (hi : 0 ≤ i ∧ i ≤ 255) (hr : RdS35 w a S) (hbf : 0 ≤ f ∧ f ≤ 255) (hbg : 0 ≤ g ∧ g ≤ 255) :
    Calls Try.prog 13 #[.int .u8 i, .slice a S.length c, .agg #[.int .u8 f, .int .u8 g]] w fun e w' => e = .returned (.bool true) ∧ Below w.heap.size w w' := by
  obtain ⟨n, rfl⟩ := Int.eq_ofNat_of_zero_le hi.1
  have hn : n ≤ 255 := by omega
  have hlen := hr.1
  have hk := (Below.refl w.heap.size w).onAlloc (.cells #[.int .u8 f, .int .u8 g] 76)
  have hr0 := hr.keep hk
  have HK := Lib.hid hk
  clear hk hr
  cases hff : (fewB35 S && decide (S.length ≤ 25))
  · have HF := Lib.hid hff
    clear hff
    go_enter Try.func13, Try.ntmps13
    go_wp2_with fail
    refine (awake35_any _).mono ?_
    rintro e w1 ⟨rfl, hb1⟩
    go_wp2_with fail
    refine (few35_is S a c _ (hr0.keep hb1) _ HF.out).mono ?_
    rintro e w2 ⟨rfl, hb2⟩
    have hB2 := (HK.out.on hb1).on hb2
    go_wp2_with fail
    go_ret
    exact ⟨rfl, hB2⟩
  have HF := Lib.hid hff
  clear hff
  have HS0 : Hid ((w.alloc (.cells #[.int .u8 f, .int .u8 g] 76)).cell? ⟨w.heap.size, 0, none⟩ = some (.int .u8 f) ∧ (w.alloc (.cells #[.int .u8 f, .int .u8 g] 76)).cell? ⟨w.heap.size, 1, none⟩ = some (.int .u8 g)) := Lib.hid ⟨by simp, by simp⟩
  go_enter Try.func13, Try.ntmps13
  go_wp2_with fail
  generalize w.alloc (.cells #[.int .u8 f, .int .u8 g] 76) = W0 at *
  refine (awake35_any _).mono ?_
  rintro e w1 ⟨rfl, hb1⟩
  go_wp2_with fail
  refine (few35_is S a c _ (hr0.keep hb1) _ HF.out).mono ?_
  rintro e w2 ⟨rfl, hb2⟩
  have hB2 := hb1.on hb2
  go_wp2_with fail
  have hff := HF.out
  simp only [Bool.and_eq_true, decide_eq_true_eq] at hff
  obtain ⟨h1, h2⟩ := hff
  have HFB := Lib.hid h1
  clear h1
  refine (build35_any n S a c _ hn (hr0.keep hB2) HFB.out h2).mono ?_
  rintro e w3 ⟨M, am, an, cm, cn, rfl, hMl, hrm, hrn, hb3⟩
  have hN : M.length ≤ 65536 := by omega
  have hN99 : M.length ≤ 99 := by omega
  have hB3 := (hB2.on hb3).onAlloc (.cells #[.int .i64 M.length, .slice am (freeR M).length cm] 58)
  have hka := (Below.refl w3.heap.size w3).onAlloc (.cells #[.int .i64 M.length, .slice am (freeR M).length cm] 58)
  have HV : Hid (TkU w (w3.alloc (.cells #[.int .i64 M.length, .slice am (freeR M).length cm] 58)) w3.heap.size M am cm f g an) :=
    Lib.hid ⟨by simp, by simp, hrm.keep hka, hrn.keep hka, hB3.keep HS0.out.1, hB3.keep HS0.out.2, HK.out.on hB3⟩
  have HZ := Lib.hid (lenL_free M hN)
  have hz1 := area_le (freeF M) M.length
  generalize hz : area (freeF M) M.length = z at *
  have HZZ := Lib.hid hz
  clear hMl hrm hrn hb3 hb1 hb2 hB2 hB3 hr0 HFB HF hka HS0 HK hz
  have t0 := HV.out.t0
  have t1 := HV.out.t1
  have q0 := HV.out.q0
  have q1 := HV.out.q1
  go_wp2_with fail
  generalize w3.alloc (.cells #[.int .i64 M.length, .slice am (freeR M).length cm] 58) = W3 at *
  generalize w3.heap.size = X at *
  obtain ⟨n', rfl⟩ := Int.eq_ofNat_of_zero_le hbf.1
  obtain ⟨h', rfl⟩ := Int.eq_ofNat_of_zero_le hbg.1
  cases hq : askB M.length n' h'
  · have HQ := Lib.hid hq
    clear hq
    refine (atake_arg M.length (freeR M) n' h' am cm _ hN HQ.out).mono ?_
    rintro e w4 ⟨rfl, hb4⟩
    have hB4 := (HV.out.B.on hb4).onAlloc (.cells #[.int .i64 0, .slice none 0 0] 58)
    go_wp2_with fail
    go_ret
    exact ⟨rfl, hB4⟩
  · have HQ := Lib.hid hq
    obtain ⟨p1, p2, p3⟩ := (askB_iff _ _ _).1 hq
    clear hq
    by_cases hfz : n' ≤ z
    · have hh : h' ≤ M.length := by omega
      have HT := Lib.hid (taken_is hN (n := n') (h := h') (by rw [HZZ.out]; exact hfz))
      obtain ⟨hw, hlen⟩ := takeL_wf hN (n := n') (h := h') (by rw [HZZ.out]; exact hfz)
      have HW := Lib.hid hw
      have HL := Lib.hid (chgM_length M (takeL M n' h') true)
      have HBK := Lib.hid (back_is HT.out.free)
      have HST := Lib.hid (back_st HT.out.perm)
      have HAB := Lib.hid (area_back HT.out.free)
      have HTA := Lib.hid (taken_area hN HT.out)
      refine (atake_all M n' h' am cm _ HV.out.r hN hh (by rw [HZZ.out]; exact hfz)).mono ?_
      rintro e w4 ⟨v1, v2, rfl, ho1, ⟨a', c', rfl, hr', _⟩, hb4⟩
      obtain ⟨b1, d1, rfl, hr1⟩ := ho1.rd (by omega)
      generalize takeL M n' h' = l at *
      generalize hM : chgM M l true = M' at *
      have HM := Lib.hid hM
      have hka := (Below.refl w4.heap.size w4).onAlloc (.cells #[.int .i64 M.length, .slice a' (freeR M').length c'] 58)
      have hh4 := HV.out.later (hb4.on hka)
      have HV : Hid (RsS w (w4.alloc (.cells #[.int .i64 M.length, .slice a' (freeR M').length c'] 58)) X w4.heap.size M M' l am a' an b1 cm c' n' h') :=
        Lib.hid ⟨hh4.t0, hh4.t1, by simp, by simp, hh4.q0, hh4.q1, hh4.r, hr'.keep hka, hh4.n, hr1.keep hka, hh4.B⟩
      clear t0 t1 q0 q1 hb4 hr1 ho1 hr' hka hM hh4 hw
      have t0 := HV.out.t0
      have t1 := HV.out.t1
      have x0 := HV.out.x0
      have x1 := HV.out.x1
      have q0 := HV.out.q0
      have q1 := HV.out.q1
      go_wp2_with fail
      generalize w4.alloc (.cells #[.int .i64 M.length, .slice a' (freeR M').length c'] 58) = W4 at *
      generalize w4.heap.size = Y at *
      have HNN := Lib.hid (fun k => lenL_le (l := l) (fun x hx => by have := (permB_iff _ _).1 HT.out.perm x hx; omega) k)
      have HLN : Hid (lenL l = n') := Lib.hid HT.out.len
      have HPX := Lib.hid ((permB_iff _ _).1 HT.out.perm)
      have HIX := Lib.hid (fun s => isL_free M' (by rw [HL.out]; exact hN) s)
      clear t0 t1 x0 x1 q0 q1
      have hn99 : n' ≤ 99 := by omega
      go_loopw [13, 14] (fun v t wr => ∃ k : Nat, k ≤ l.length ∧ t = .int .i64 k ∧ v = .int .i64 (lenL (l.take k)) ∧ 0 ≤ lenL (l.take k) ∧ Below W4.heap.size W4 wr) (fun _ t _ => l.length - (intOf t).toNat)
      case atStart => exact ⟨0, Nat.zero_le _, rfl, rfl, by simp [lenL], Below.refl _ _⟩
      case round =>
        obtain ⟨k, hk, rfl, rfl, hz0, hB⟩ := hrel
        by_cases hlt : k < l.length
        · obtain ⟨b, o, rfl, hat⟩ := HV.out.l.at (by omega)
          obtain ⟨h1', h2', h3'⟩ := hat k _ (List.getElem?_eq_getElem hlt)
          have h2 := hB.keep h2'
          have h3 := hB.keep h3'
          obtain ⟨e1, e2, e3⟩ := HPX.out _ (List.getElem_mem hlt)
          have HTk := Lib.hid (lenL_take l k hlt)
          have HLi := Lib.hid (fun s => (listF_iff l s).2)
          have HXm := Lib.hid (List.getElem_mem hlt)
          have hle1 := HNN.out (k + 1)
          rw [HTk.out, HLN.out] at hle1
          generalize lenL (l.take k) = sm at *
          generalize hx : l[k] = x at *
          have HX := Lib.hid hx
          obtain ⟨xa, xn, xs⟩ := x
          simp only at h1' h2' h3' h2 h3 e1 e2 e3 hle1
          clear hat hx h1'
          obtain ⟨s, rfl⟩ := Int.eq_ofNat_of_zero_le e2
          obtain ⟨m, rfl⟩ := Int.eq_ofNat_of_zero_le (show 0 ≤ xn by omega)
          go_wp2_with fail
          obtain ⟨V0, rfl⟩ : ∃ V0 : World, V0 = wr := ⟨_, rfl⟩
          have hB0 := hB
          go_loopw [13, 15] (fun v t wi => ∃ p : Nat, s ≤ p ∧ p ≤ s + m ∧ t = .int .i64 p ∧ v = .int .i64 (sm + (p - s : Nat)) ∧ Below W4.heap.size W4 wi) (fun _ t _ => s + m - (intOf t).toNat)
          case atStart => exact ⟨s, Nat.le_refl _, by omega, rfl, by rw [Nat.sub_self]; simp, hB0⟩
          case round =>
            obtain ⟨p, hp1, hp2, rfl, rfl, hBi⟩ := hrel
            have HVi := Lib.hid (HV.out.later hBi)
            have y2 := hBi.keep h2'
            have y3 := hBi.keep h3'
            by_cases hlp : p < s + m
            · have hlpb : decide ((p : Int) < ↑s + ↑m) = true := decide_eq_true (by omega)
              have hpN : p < M.length := by omega
              have hlist : listF l p = true := HLi.out p ⟨⟨xa, m, s⟩, HXm.out, by simp only; omega, by simp only; omega⟩
              have hfp := HT.out.free p hlist
              rw [freeF_get M p hpN] at hfp
              have hMp : M[p] = false := by simpa using hfp
              have HIs : Hid (isL (freeR M') p = false) := Lib.hid (by
                rw [HIX.out p, ← HM.out, free_chg M l true p hpN, hlist]; rfl)
              obtain ⟨bm, om, rfl, hatm⟩ := HVi.out.n.at (by omega)
              have hmc := hatm p _ (List.getElem?_eq_getElem hpN)
              rw [hMp] at hmc
              have hsum : sm + ((p - s : Nat) : Int) + 1 ≤ 99 := by omega
              have hsum0 : 0 ≤ sm + ((p - s : Nat) : Int) := by omega
              have HSS : Hid (sm + ((p + 1 - s : Nat) : Int) = sm + ((p - s : Nat) : Int) + 1) := Lib.hid (by omega)
              generalize sm + ((p - s : Nat) : Int) = cc at *
              have x0 := HVi.out.x0
              have x1 := HVi.out.x1
              clear hlist hfp hMp hatm
              go_wp2_with fail
              refine wp_region_next (by kernel_rfl) (by kernel_rfl) ?_
              repeat (go_big_quiet_step (fail))
              refine wpQuiet_nil ?_
              intro _ hw'
              obtain ⟨nq, hw''⟩ := hw'
              subst hw''
              have hb9 := World.below_next wr nq
              have hmc2 := hb9.keep hmc
              have x02 := hb9.keep x0
              have x12 := hb9.keep x1
              have HRX := Lib.hid (HVi.out.rx.keep hb9)
              have hBn := hBi.on hb9
              generalize wr.next nq = V1 at *
              clear hb9 x0 x1 hmc y2 y3
              go_wp2_with fail
              refine (is_is M.length (freeR M') p false a' c' _ HIs.out HRX.out (freeR_canon M') (by omega)).mono ?_
              rintro e w7 ⟨rfl, hb7⟩
              have hBn2 := hBn.on hb7
              go_wp2_with fail
              go_roundw
              case rel => exact ⟨p + 1, by omega, by omega, by go_num, by rw [HSS.out], hBn2⟩
              case measure => simp [intOf]; omega
            · have hlpb : decide ((p : Int) < ↑s + ↑m) = false := decide_eq_false (by omega)
              obtain rfl : p = s + m := by omega
              have HSS : Hid (lenL (l.take (k + 1)) = sm + ((s + m - s : Nat) : Int)) := Lib.hid (by rw [HTk.out]; omega)
              have hcc : 0 ≤ sm + ((s + m - s : Nat) : Int) := by omega
              generalize sm + ((s + m - s : Nat) : Int) = cc at *
              go_wp2_with fail
              refine wp_region_next (by kernel_rfl) (by kernel_rfl) ?_
              repeat (go_big_quiet_step (fail))
              refine wpQuiet_nil ?_
              intro _ hw'
              obtain ⟨nq, hw''⟩ := hw'
              subst hw''
              go_wp2_with fail
              go_roundw
              case rel => exact ⟨k + 1, by omega, by go_num, by rw [HSS.out], by rw [HSS.out]; exact hcc, hBi.onNext _⟩
              case measure => simp [intOf]; omega
        · obtain rfl : k = l.length := by omega
          rw [List.take_length, HLN.out]
          have HVi := Lib.hid (HV.out.later hB)
          have x0 := HVi.out.x0
          have x1 := HVi.out.x1
          go_wp2_with fail
          have hg := agive_is M' M.length l a' b1 c' d1 wr HL.out (by rw [HL.out]; exact hN) HVi.out.rx HVi.out.l HW.out (by omega) HT.out.range HST.out M HBK.out
          refine hg.mono ?_
          clear hg
          rintro e w7 ⟨a7, c7, rfl, hr7, hb7⟩
          have hk9 := (Below.refl w7.heap.size w7).onAlloc (.cells #[.int .i64 M.length, .slice a7 (freeR M).length c7] 58)
          have hV9 := (HVi.out.later hb7).later hk9
          have HR9 := Lib.hid (hr7.keep hk9)
          have z0 : (w7.alloc (.cells #[.int .i64 M.length, .slice a7 (freeR M).length c7] 58)).cell? ⟨w7.heap.size, 0, none⟩ = some (.int .i64 M.length) := by simp
          have z1 : (w7.alloc (.cells #[.int .i64 M.length, .slice a7 (freeR M).length c7] 58)).cell? ⟨w7.heap.size, 1, none⟩ = some (.slice a7 (freeR M).length c7) := by simp
          have HV9 := Lib.hid hV9
          have q0 := HV9.out.q0
          have x0 := HV9.out.x0
          have x1 := HV9.out.x1
          have t0 := HV9.out.t0
          have t1 := HV9.out.t1
          have HFM : Hid (lenL (freeR M') = (z : Int) - n') := Lib.hid (by
            rw [lenL_free M' (by rw [HL.out]; exact hN), HL.out]
            have h1 := HAB.out
            have h2 := HTA.out
            have h3 := HZZ.out
            omega)
          have HZM : Hid (lenL (freeR M) = z) := Lib.hid (by rw [HZ.out])
          have qe : ((n' : Int) == n') = true := by simp
          clear hk9 hV9 hr7 hb7
          go_wp2_with fail
          generalize w7.alloc (.cells #[.int .i64 M.length, .slice a7 (freeR M).length c7] 58) = W9 at *
          generalize w7.heap.size = Z at *
          have q8 : IntKind.i64.wrap ((z : Int) - n') = (z : Int) - n' := IntWalk.i64_in _ (by omega)
          refine wp_region_next (by kernel_rfl) (by kernel_rfl) ?_
          repeat (go_big_quiet_step ((first | (go_at_call 46; exact Calls.next_of (same35_is M M.length a7 an c7 cn _ rfl hN (HR9.out.keep (World.below_next _ _)) (HV9.out.n.keep (World.below_next _ _)))) | (go_at_call_of 37 (Value.agg #[.int .i64 M.length, .slice a' (freeR M').length c']); exact Calls.next_of (afree_is M.length (freeR M') ((z : Int) - n') a' c' _ HFM.out (HV9.out.rx.keep (World.below_next _ _)) (freeR_canon M'))) | (go_at_call_of 37 (Value.agg #[.int .i64 M.length, .slice am (freeR M).length cm]); exact Calls.next_of (afree_is M.length (freeR M) z am cm _ HZM.out (HV9.out.r.keep (World.below_next _ _)) (freeR_canon M))))))
          refine wpQuiet_nil ?_
          intro _ hw'
          obtain ⟨nq, hw''⟩ := hw'
          subst hw''
          go_wp2_with fail
          go_ret
          exact ⟨rfl, HV9.out.B.onNext _⟩
    · refine (atake_space M.length (freeR M) n' h' am cm _ hN HV.out.r (freeR_canon M) HQ.out (by rw [HZ.out]; omega)).mono ?_
      rintro e w4 ⟨rfl, hb4⟩
      have hB4 := (HV.out.B.on hb4).onAlloc (.cells #[.int .i64 0, .slice none 0 0] 58)
      go_wp2_with fail
      go_ret
      exact ⟨rfl, hB4⟩
end Go.Proofs.Ytolhajkbamhdgaa
