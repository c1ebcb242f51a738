/-
  The walk of the law ThinExact.
  Conditions: none beyond that the arguments can be read.
-/
import Derived.Test.YtpakjddfnhnndaaGreatGL
namespace Go.Proofs.YtpakjddfnhnndaaGreat
set_option linter.unusedSimpArgs false
set_option linter.unusedVariables false
set_option maxRecDepth 100000
open Go.RowKit Go.Maps

def newN : List UInt8 := [110, 101, 119]
theorem newN_max : newN.length ≤ maxLen := by decide
theorem rclone_r (F G : Fam) (e0 : Int) (gv : Value) (nm ot : List UInt8) (w : World) (hF : F.ok) (h : FamR w gv F) (hnm : nm.length ≤ maxLen) (hot : ot.length ≤ maxLen) (he : cloneF F nm ot = (G, e0)) :
    Calls Tryz.prog 58 #[gv, nmV nm, nmV ot] w fun e w' => ∃ gv, e = .returned (.tuple #[gv, .int .i64 e0]) ∧ FamR w' gv G ∧ Below w.heap.size w w' := by
  have := rclone_is F gv nm ot w hF h hnm hot
  rwa [he] at this
/-- A creation that fits is permitted exactly if the family stays sound. -/
theorem create_exact {F H : Fam} (hF : F.ok) {nm : List UInt8} {n r : Int} (he : createF F nm n r = (H, 0)) : H.ok ∧ ((canCreateF F n r = 0 ∧ 0 ≤ roomF H) ∨ (canCreateF F n r = 11 ∧ roomF H < 0)) := by
  have hok := ok_create hF nm n r
  rw [he] at hok
  refine ⟨hok, ?_⟩
  unfold createF at he
  split at he
  · injection he with _ h; cases h
  split at he
  · injection he with _ h; cases h
  split at he
  · injection he with _ h; cases h
  rename_i h1 h2 h3
  injection he with he _
  subst he
  have hu : getV F.vs nm = none := by simpa using h2
  have hb : nameB nm = true ∧ numB n r = true := by simpa using h1
  have hnum : 1 ≤ n ∧ n ≤ 65536 ∧ 0 ≤ r ∧ r ≤ n := of_decide_eq_true hb.2
  have hr : roomF ⟨F.N, putV F.vs ⟨nm, n, r, []⟩⟩ = roomF F - r := room_create hF (u := ⟨nm, n, r, []⟩) hu rfl hnum.2.2.1
  have hc : canCreateF F n r = enoughN r (roomF F) := by unfold canCreateF; rw [hb.2, if_neg (by decide)]
  rw [hr, hc]
  unfold enoughN
  by_cases h : r > roomF F
  · rw [if_pos h]; exact .inr ⟨rfl, by omega⟩
  · rw [if_neg h]; exact .inl ⟨rfl, by omega⟩
theorem clone_exact {F H : Fam} (hF : F.ok) {v : Vol} (hv : getV F.vs v.nm = some v) {ot : List UInt8} (he : cloneF F v.nm ot = (H, 0)) : H.ok ∧ ((canCloneF F v.nm = 0 ∧ 0 ≤ roomF H) ∨ (canCloneF F v.nm = 11 ∧ roomF H < 0)) := by
  have hok := ok_clone hF v.nm ot
  rw [he] at hok
  refine ⟨hok, ?_⟩
  unfold cloneF at he
  rw [hv] at he
  simp only at he
  split at he
  · injection he with _ h; cases h
  split at he
  · injection he with _ h; cases h
  split at he
  · injection he with _ h; cases h
  rename_i h1 h2 h3
  injection he with he _
  subst he
  have hu : getV F.vs ot = none := by simpa using h2
  have hr : roomF ⟨F.N, putV F.vs ⟨ot, v.n, 0, v.l⟩⟩ = roomF F - (v.r - claimV F.C v) := room_clone hF (u := ⟨ot, v.n, 0, v.l⟩) hv hu rfl rfl
  have hc : canCloneF F v.nm = enoughN (v.r - claimV F.C v) (roomF F) := by unfold canCloneF; rw [hv]
  rw [hr, hc]
  unfold enoughN
  by_cases h : v.r - claimV F.C v > roomF F
  · rw [if_pos h]; exact .inr ⟨rfl, by omega⟩
  · rw [if_neg h]; exact .inl ⟨rfl, by omega⟩
/-- Behind the clone: the new family lies in block X. -/
def CloE (w1 : World) (H : Fam) (x0 : Int) (p q : Value) (W : World) : Prop := ∃ X u v, p = .pointer (some ⟨X, 0, none⟩) ∧ q = .int .i64 x0 ∧ Bx W X 45 u v ∧ FamR W (.agg #[u, v]) H ∧ Below w1.heap.size w1 W
def FalC (v : World) (p : Value) (W : World) : Prop := p = .bool false ∧ Below v.heap.size v W
set_option maxHeartbeats 6000000 in
theorem law_exact37 (i : Int) (S : List Step36) (p q : Int) (a : Option Addr) (c : Nat) (w : World) (hi : 0 ≤ i ∧ i ≤ 255) (hr : RdS36 w a S) (hp : 0 ≤ p ∧ p ≤ 255) (hq : 0 ≤ q ∧ q ≤ 255) :
    Calls Tryz.prog 15 #[.int .u8 i, .slice a S.length c, .agg #[.int .u8 p, .int .u8 q]] w fun e w' => e = .returned (.bool true) ∧ Below w.heap.size w w' := by
  have hk0 := (Below.refl w.heap.size w).onAlloc (.cells #[.int .u8 p, .int .u8 q] 93)
  have HK0 := Lib.hid hk0
  replace hr := hr.keep hk0
  have HPB := Lib.hid (Bx.new w _ rfl (.int .u8 p) (.int .u8 q) 93)
  clear hk0
  obtain ⟨p1, p2⟩ := hp
  obtain ⟨q1, q2⟩ := hq
  obtain ⟨n, rfl⟩ := Int.eq_ofNat_of_zero_le hi.1
  have hn : n ≤ 255 := by omega
  have hlen := hr.1
  have hm0 : n % 50 ≤ 65536 := by omega
  have hmod : ((n : Int) % 50) = ((n % 50 : Nat) : Int) := by omega
  obtain ⟨m, hm⟩ : ∃ m, m = n % 50 := ⟨_, rfl⟩
  have HMD := Lib.hid hmod
  rw [← hm] at hm0 HMD
  have hm50 : m < 50 := by omega
  obtain ⟨F0, hF0⟩ : ∃ F, F = (⟨m, []⟩ : Fam) := ⟨_, rfl⟩
  have HF0 := Lib.hid hF0
  have HS0 : Hid F0.sound := Lib.hid (by rw [hF0]; exact new_sound m hm0)
  have HM0 := Lib.hid hm
  clear hmod hm hF0
  by_cases h25 : 20 < S.length
  · go_enter Tryz.func15, Tryz.ntmps15
    go_wp2_with fail
    refine (awake37_any _).mono ?_
    rintro e w1 ⟨rfl, hb1⟩
    go_wp2_with fail
    go_ret
    exact ⟨rfl, by first | exact hb1 | exact HK0.out.on hb1⟩
  go_enter Tryz.func15, Tryz.ntmps15
  go_wp2_with fail
  refine (awake37_any _).mono ?_
  rintro e w1 ⟨rfl, hb1⟩
  have HRS := Lib.hid hr
  have HB1 := Lib.hid hb1
  clear hb1 hr
  go_wp2_with fail
  rw [HMD.out]
  refine (fnew_yes m _ hm0).mono ?_
  rintro e w2 ⟨fv, rfl, hf, hb⟩
  have hf : FamV w2 fv F0 := by rw [HF0.out]; exact hf
  obtain ⟨fa, fc, fm, rfl⟩ := hf.form
  have hk := (Below.refl w2.heap.size w2).onAlloc (.cells #[.slice fa F0.N fc, .map fm] 28)
  have HX1 := Lib.hid (Bx.new w2 _ rfl (.slice fa F0.N fc) (.map fm) 28)
  have HF1 := Lib.hid (hf.keep hk)
  have HB1 := Lib.hid (HB1.out.on hb)
  have HLE1 := Lib.hid HB1.out.size
  have HB1 := Lib.hid (HB1.out.on hk)
  clear hf hb hk
  go_wp2_with fail
  rw [HMD.out]
  refine (rfnew_is m _ hm0).mono ?_
  rintro e w3 ⟨gv, rfl, hg, hb⟩
  have hg : FamR w3 gv F0 := by rw [HF0.out]; exact hg
  obtain ⟨ra, rn, rc, rfl⟩ := hg.form
  have hk := (Below.refl w3.heap.size w3).onAlloc (.cells #[.int .i64 F0.N, .slice ra rn rc] 45)
  have hT9 : w2.heap.size < w3.heap.size := by have := hb.size; simp only [World.size_alloc] at this; omega
  have HP := Lib.hid (LW.mk ((HX1.out.later hb).later hk) (Bx.new w3 _ rfl (.int .i64 F0.N) (.slice ra rn rc) 45) ((HF1.out.keep hb).keep hk) (hg.keep hk) hT9 HLE1.out ((HB1.out.on hb).on hk))
  clear hk hg hb hT9 HX1 HF1 HB1 HLE1
  go_wp2_with fail
  generalize w.alloc (.cells #[.int .u8 p, .int .u8 q] 93) = w0 at *
  generalize w3.alloc (.cells #[.int .i64 F0.N, .slice ra rn rc] 45) = W0 at *
  generalize w2.heap.size = T at *
  generalize w3.heap.size = S9 at *
  go_loopw [11] (fun i wr => ∃ (j : Nat) (F : Fam) (u v x y : Value), j ≤ S.length ∧ i = .int .i64 j ∧ F.sound ∧ LW w0 wr T S9 u v x y F) (fun i _ => S.length - (intOf i).toNat)
  case atStart => exact ⟨0, F0, _, _, _, _, by omega, rfl, HS0.out, HP.out⟩
  case round =>
    clear HP
    obtain ⟨j, F, u, v, x, y, hj, rfl, hsd, hp⟩ := hrel
    obtain ⟨fa, fc, fm, he⟩ := hp.fam.form
    obtain ⟨rfl, rfl⟩ : u = .slice fa F.N fc ∧ v = .map fm := by
      injection he with he
      have h1 := congrArg Array.toList he
      simp at h1
      exact h1
    obtain ⟨ra, rn, rc, he⟩ := hp.famr.form
    obtain ⟨rfl, rfl⟩ : x = .int .i64 F.N ∧ y = .slice ra rn rc := by
      injection he with he
      have h1 := congrArg Array.toList he
      simp at h1
      exact h1
    clear he
    have HP := Lib.hid hp
    have HSD := Lib.hid hsd
    clear hp hsd
    by_cases hlt : j < S.length
    · obtain ⟨sb, so, rfl, hat⟩ := (HRS.out.keep HP.out.B).at (by omega)
      have hst := hat j _ (List.getElem?_eq_getElem hlt)
      generalize S[j] = s at *
      have HST := Lib.hid hst
      have hk0 : (0 : Int) ≤ j := by omega
      have hk9 : (j : Int) < S.length := by omega
      clear hst hat
      go_upto_region 10 with fail
      have HV := Lib.hid (HP.out.later (Below.refl _ _).drew)
      have p0 := HP.out.fb.c0
      have p1 := HP.out.fb.c1
      have p2 := HP.out.gb.c0
      have p3 := HP.out.gb.c1
      have s0 := HST.out.c0
      have s1 := HST.out.c1
      have s2 := HST.out.c2
      have s3 := HST.out.c3
      have s4 := HST.out.c4
      have s5 := HST.out.c5
      go_region_law ((go_simp; go_at_call 56; refine (perm37_is F _ _ s _ HSD.out HV.out.fam HV.out.famr HST.out.ok).mono ?_; rintro e w5 ⟨G, fv, gv, rfl, hsg, hkp, hf, hg, hb5⟩; obtain ⟨ga, gc, gm, rfl⟩ := hf.form; obtain ⟨ya, yn, yc, rfl⟩ := hg.form; have HP5 := Lib.hid (HV.out.later hb5); have hoo := HP5.out.o; have q0 := HP5.out.fb.c0; have q1 := HP5.out.fb.c1; have q2 := HP5.out.fb.f0; have q3 := HP5.out.fb.f1; have r0 := (HP5.out.gb.far (R := T) (by omega) (.slice ga G.N gc) (.map gm)).c0; have r1 := (HP5.out.gb.far (R := T) (by omega) (.slice ga G.N gc) (.map gm)).c1; have r2 := HP5.out.gb.f0; have r3 := HP5.out.gb.f1; clear hoo))
      all_goals
        have HQ := Lib.hid (HP5.out.put hf hg)
        have HSG := Lib.hid hsg
        clear hf hg hb5 hsg HP5 HV hkp
        clear p0 p1 p2 p3 s0 s1 s2 s3 s4 s5 q0 q1 q2 q3 r0 r1 r2 r3
        go_wp2_with fail
        go_roundw
        case rel => exact ⟨j + 1, G, _, _, _, _, by omega, by go_num, HSG.out, HQ.out⟩
        case measure => simp [intOf]; omega
    · obtain rfl : j = S.length := by omega
      have HQ := HP
      have hPB := HPB.out.later HQ.out.B
      have y0 := hPB.c0
      have y1 := hPB.c1
      obtain ⟨n0, hn0⟩ : ∃ n0, 1 + p % 40 = n0 := ⟨_, rfl⟩
      have hn1 : 1 ≤ n0 ∧ n0 ≤ 40 := by omega
      obtain ⟨hn1, hn2⟩ := hn1
      obtain ⟨r0, hr0⟩ : ∃ r0, q % (n0 + 1) = r0 := ⟨_, rfl⟩
      obtain ⟨H, x0, hcr⟩ : ∃ H x0, createF F newN n0 r0 = (H, x0) := ⟨_, _, rfl⟩
      have HC := Lib.hid hcr
      clear hPB hcr
      have c0 := HQ.out.gb.c0
      have c1 := HQ.out.gb.c1
      go_wp2_with fail
      refine (rcreate_r F H x0 _ newN n0 r0 _ HSD.out.ok HQ.out.famr newN_max HC.out).mono ?_
      rintro e v1 ⟨gv, rfl, hg, hb⟩
      obtain ⟨ya, yn, yc, rfl⟩ := hg.form
      have hk1 := hb.onAlloc (.cells #[.int .i64 H.N, .slice ya yn yc] 45)
      have HQ := Lib.hid (HQ.out.later hk1)
      have HX := Lib.hid (Bx.new v1 _ rfl (.int .i64 H.N) (.slice ya yn yc) 45)
      have HFH := Lib.hid (hg.keep ((Below.refl v1.heap.size v1).onAlloc (.cells #[.int .i64 H.N, .slice ya yn yc] 45)))
      clear hk1 hb hg c0 c1 y0 y1 HP
      go_upto_region 14 with fail
      try rw [hn0]
      try rw [hr0]
      clear hn0 hr0
      generalize v1.alloc (.cells #[.int .i64 H.N, .slice ya yn yc] 45) = W1 at *
      generalize v1.heap.size = X at *
      go_cut [89] from 77 to 89 (fun p wx => FalC W1 p wx)
      case first =>
        have b0 := HQ.out.fb.c0
        have b1 := HQ.out.fb.c1
        have c0 := HQ.out.gb.c0
        have c1 := HQ.out.gb.c1
        have t0 := HX.out.c0
        have t1 := HX.out.c1
        by_cases hx0 : x0 = 0
        · subst hx0
          obtain ⟨hHok, hal⟩ := create_exact HSD.out.ok HC.out
          obtain ⟨rm, hrm⟩ : ∃ x, roomF H = x := ⟨_, rfl⟩
          rw [hrm] at hal
          have HRM := Lib.hid hrm
          have HHOK := Lib.hid hHok
          clear hrm hHok
          rcases hal with ⟨hcc, hr9⟩ | ⟨hcc, hr9⟩
          · have HCC := Lib.hid hcc
            have hd : decide (0 ≤ rm) = true := decide_eq_true hr9
            clear hcc
            refine wp_region_next (by kernel_rfl) (by kernel_rfl) ?_
            repeat (go_big_quiet_step ((first | (go_at_call 53; exact Calls.next_of (tcreate_is F 0 _ n0 r0 _ HSD.out.ok HSD.out.short (HQ.out.fam.keep (World.below_next _ _)) HCC.out)) | (go_at_call 46; exact Calls.next_of (qroom_is H rm _ _ HHOK.out (HFH.out.keep (World.below_next _ _)) HRM.out)))))
            refine wpQuiet_nil ?_
            intro _ hw'
            obtain ⟨nq, hw''⟩ := hw'
            subst hw''
            have HQ9 : Hid (FalC W1 (.bool false) (W1.next nq)) := Lib.hid ⟨rfl, World.below_next _ nq⟩
            clear b0 b1 c0 c1 t0 t1 hd hr9
            go_wp2_with fail
            go_meet
            exact HQ9.out
          · have HCC := Lib.hid hcc
            have hd : decide (0 ≤ rm) = false := decide_eq_false (by omega)
            clear hcc
            refine wp_region_next (by kernel_rfl) (by kernel_rfl) ?_
            repeat (go_big_quiet_step ((first | (go_at_call 53; exact Calls.next_of (tcreate_is F 11 _ n0 r0 _ HSD.out.ok HSD.out.short (HQ.out.fam.keep (World.below_next _ _)) HCC.out)) | (go_at_call 46; exact Calls.next_of (qroom_is H rm _ _ HHOK.out (HFH.out.keep (World.below_next _ _)) HRM.out)))))
            refine wpQuiet_nil ?_
            intro _ hw'
            obtain ⟨nq, hw''⟩ := hw'
            subst hw''
            have HQ9 : Hid (FalC W1 (.bool false) (W1.next nq)) := Lib.hid ⟨rfl, World.below_next _ nq⟩
            clear b0 b1 c0 c1 t0 t1 hd hr9
            go_wp2_with fail
            go_meet
            exact HQ9.out
        · have d0 : (x0 == 0) = false := by simpa using hx0
          clear hx0
          refine wp_region_next (by kernel_rfl) (by kernel_rfl) ?_
          repeat (go_big_quiet_step (fail))
          refine wpQuiet_nil ?_
          intro _ hw'
          obtain ⟨nq, hw''⟩ := hw'
          subst hw''
          have HQ9 : Hid (FalC W1 (.bool false) (W1.next nq)) := Lib.hid ⟨rfl, World.below_next _ nq⟩
          clear b0 b1 c0 c1 t0 t1
          go_wp2_with fail
          go_meet
          exact HQ9.out
      case rest =>
        obtain ⟨rfl, hbc⟩ := hcut
        obtain ⟨W2, rfl⟩ : ∃ W2 : World, W2 = wc := ⟨_, rfl⟩
        have HQ := Lib.hid (HQ.out.later hbc)
        clear hbc HX HFH HC
        obtain ⟨a2, c2, ts, he, hr2, hl2, hts, _⟩ := HQ.out.famr
        obtain ⟨rfl, rfl, rfl⟩ : ra = a2 ∧ rn = ts.length ∧ rc = c2 := by
          injection he with he
          have h1 := congrArg Array.toList he
          simp at h1
          exact h1
        have HR := Lib.hid hr2
        have HTS := Lib.hid hts
        have h32 := (fit_len HSD.out.ok hts).2
        clear he hr2 hl2 hts
        go_wp2_with fail
        go_loopw [16] (fun i wr => ∃ j : Nat, j ≤ ts.length ∧ i = .int .i64 j ∧ Below W2.heap.size W2 wr) (fun i _ => ts.length - (intOf i).toNat)
        case atStart => exact ⟨0, by omega, rfl, Below.refl _ _⟩
        case round =>
          obtain ⟨j, hj, rfl, hB⟩ := hrel
          have HM := Lib.hid (HQ.out.later hB)
          have HB0 := Lib.hid hB
          have d0 := HM.out.gb.c0
          have d1 := HM.out.gb.c1
          by_cases hlt : j < ts.length
          · obtain ⟨b, o, rfl, hat⟩ := (HR.out.keep hB).at (by omega)
            have hat9 := hat j _ (List.getElem?_eq_getElem hlt)
            have hmem : ts[j].vol ∈ F.vs := by rw [← HTS.out]; exact List.mem_map_of_mem (List.getElem_mem hlt)
            generalize ts[j] = y at *
            have hok := HSD.out.ok.vol _ hmem
            have n1 : 1 ≤ y.n := hok.n1
            have n2 : y.n ≤ 65536 := hok.n2
            have HNL : Hid (y.nm.length ≤ maxLen) := Lib.hid (nameB_max hok.name)
            have hgv : getV F.vs y.vol.nm = some y.vol := getV_of HSD.out.ok.sorted hmem
            have HGV := Lib.hid hgv
            have HAT := Lib.hid hat9
            obtain ⟨K, x1, hcl⟩ : ∃ K x1, cloneF F y.nm newN = (K, x1) := ⟨_, _, rfl⟩
            have HC := Lib.hid hcl
            obtain ⟨m9, hm9⟩ : ∃ m9 : Nat, y.n = m9 := ⟨y.n.toNat, by omega⟩
            have hnd : needF F y.nm 0 y.n = (restN F.C y.l 0 m9, 0) := by
              have := need_range HSD.out.ok hgv 0 m9 (by show ((0 + m9 : Nat) : Int) ≤ y.n; omega)
              rw [hm9]
              exact this
            obtain ⟨rs, hrs⟩ : ∃ rs, restN F.C y.l 0 m9 = rs := ⟨_, rfl⟩
            rw [hrs] at hnd
            have HND := Lib.hid hnd
            have HCW : Hid (rs = 0 → canWriteF F y.nm 0 y.n = 0) := Lib.hid fun h => write_claim (by rw [hnd]) (by
              rw [hnd, h]
              have : claimF F y.nm = (claimV F.C y.vol, 0) := claim_mem HSD.out.ok hmem
              rw [this]
              exact claimV_nonneg _ _)
            have hj0 : (0 : Int) ≤ j := by omega
            have hj1 : (j : Int) < ts.length := by omega
            clear hat hat9 hmem hok hgv hcl hm9 hnd hrs hB
            obtain ⟨nm, yn9, yr9, ya9, yc9, yl9⟩ := y
            simp only at n1 n2
            go_upto_region 19 with fail
            clear d0 d1
            have HV := Lib.hid (HM.out.later (Below.refl _ _).drew)
            have HVA := Lib.hid (HAT.out.keep (Below.refl _ _).drew)
            have h9d : wr.drew.heap.size = wr.heap.size := rfl
            go_cut [17, 18] from 97 to 107 (fun p q wx => CloE wr K x1 p q wx)
            case first =>
              have HB1 : Hid (Bx (wr.alloc (.cells #[.int .i64 0, .slice none 0 0] 45)).drew wr.heap.size 45 (.int .i64 0) (.slice none 0 0)) := Lib.hid ((Bx.new wr _ rfl (.int .i64 0) (.slice none 0 0) 45).later (Below.refl _ _).drew)
              have hAL : Below wr.drew.heap.size wr.drew (wr.alloc (.cells #[.int .i64 0, .slice none 0 0] 45)).drew := (Below.refl wr.drew.heap.size wr.drew).onAlloc (.cells #[.int .i64 0, .slice none 0 0] 45)
              have HAV := Lib.hid (HV.out.later hAL)
              have HAA := Lib.hid (HVA.out.keep hAL)
              have HAL := Lib.hid hAL
              clear hAL
              go_region_held3 (fun w' => w'.cell? ⟨S9, 0, none⟩ = some (.int .i64 F.N) ∧ w'.cell? ⟨S9, 1, none⟩ = some (.slice (some ⟨b, o, none⟩) ts.length rc) ∧ w'.cell? ⟨b, o + j * 4, none⟩ = some (nmV nm) ∧ Below wr.drew.heap.size wr.drew w')
                (first
                  | with_reducible exact ⟨HV.out.gb.c0, HV.out.gb.c1, HVA.out.c0, Below.refl _ _⟩
                  | with_reducible exact ⟨HAV.out.gb.c0, HAV.out.gb.c1, HAA.out.c0, HAL.out⟩
                  | with_reducible exact ⟨HVK.out.gb.c0, HVK.out.gb.c1, HKA.out.c0, hWK⟩
                  | with_reducible exact ⟨HVL.out.gb.c0, HVL.out.gb.c1, HLA.out.c0, hWL⟩
                  | with_reducible exact ⟨HVR.out.gb.c0, HVR.out.gb.c1, HRA.out.c0, hWR⟩
                  | with_reducible exact ⟨HVP.out.gb.c0, HVP.out.gb.c1, HPA.out.c0, hWP⟩)
                (first
                  | (go_at_call 58; have hW := (‹_ ∧ _ ∧ _ ∧ Below wr.drew.heap.size wr.drew _›).2.2.2; refine (rclone_r F K x1 (.agg #[.int .i64 F.N, .slice (some ⟨b, o, none⟩) ts.length rc]) nm newN _ HSD.out.ok (HV.out.later hW).famr HNL.out newN_max HC.out).mono ?_; rintro e w5 ⟨gv, rfl, hg, hb5⟩; obtain ⟨ka, kn, kc, rfl⟩ := hg.form; have hWK := hW.on hb5; have HVK := Lib.hid (HV.out.later hWK); have HKA := Lib.hid (HVA.out.keep hWK); have hWL := hWK.onAlloc (.cells #[.int .i64 K.N, .slice ka kn kc] 45); have HVL := Lib.hid (HV.out.later hWL); have HLA := Lib.hid (HVA.out.keep hWL); have hWR := hWK.onAlloc (.cells #[.int .i64 0, .slice none 0 0] 45); have HVR := Lib.hid (HV.out.later hWR); have HRA := Lib.hid (HVA.out.keep hWR); have hWP : Below wr.drew.heap.size wr.drew (fam2 w5 wr.heap.size (.int .i64 K.N) (.slice ka kn kc)) := (hWK.setCell (Nat.le_refl _) _).setCell (Nat.le_refl _) _; have HVP := Lib.hid (HV.out.later hWP); have HPA := Lib.hid (HVA.out.keep hWP); (try (have HBX := Lib.hid (HB1.out.later hb5); have t0 := HBX.out.c0; have t1 := HBX.out.c1; have t2 := HBX.out.f0; have t3 := HBX.out.f1))))
              · have h13 := (Below.refl wr.heap.size wr).drew.on hWK
                have hk9 := (Below.refl w5.heap.size w5).onAlloc (.cells #[.int .i64 K.N, .slice ka kn kc] 45)
                have HQ9 : Hid (CloE wr K x1 (.pointer (some ⟨w5.heap.size, 0, none⟩)) (.int .i64 x1) (w5.alloc (.cells #[.int .i64 K.N, .slice ka kn kc] 45))) :=
                  Lib.hid ⟨_, _, _, rfl, rfl, Bx.new w5 _ rfl (.int .i64 K.N) (.slice ka kn kc) 45, hg.keep hk9, h13.onAlloc _⟩
                clear h13 hk9 hg hb5 hWK hWL hWR hWP hW
                go_wp2_with fail
                go_meet
                exact HQ9.out
              · have h13 := (Below.refl wr.heap.size wr).drew.on hWK
                have HQ9 : Hid (CloE wr K x1 (.pointer (some ⟨wr.heap.size, 0, none⟩)) (.int .i64 x1) (fam2 w5 wr.heap.size (.int .i64 K.N) (.slice ka kn kc))) :=
                  Lib.hid ⟨_, _, _, rfl, rfl, HBX.out.put _ _, HBX.out.famR hg, (h13.setCell (Nat.le_refl _) _).setCell (Nat.le_refl _) _⟩
                clear h13 hg hb5 hWK hWL hWR hWP hW t0 t1 t2 t3
                go_wp2_with fail
                go_meet
                exact HQ9.out
            case rest =>
              obtain ⟨X, ku, kv, rfl, rfl, hbx, hfm, hbl⟩ := hcut
              obtain ⟨W3, rfl⟩ : ∃ W2 : World, W2 = wc := ⟨_, rfl⟩
              obtain ⟨ka, kn, kc, he⟩ := hfm.form
              obtain ⟨rfl, rfl⟩ : ku = .int .i64 K.N ∧ kv = .slice ka kn kc := by
                injection he with he
                have h1 := congrArg Array.toList he
                simp at h1
                exact h1
              have HX := Lib.hid hbx
              have HFK := Lib.hid hfm
              have HM := Lib.hid (HM.out.later hbl)
              have HAT := Lib.hid (HAT.out.keep hbl)
              have HB0 := Lib.hid (HB0.out.on hbl)
              clear hbx hfm hbl he HV HVA h9d
              go_upto_region 20 with fail
              go_cut [124] from 108 to 124 (fun p wx => FalC W3 p wx)
              case first =>
                have b0 := HM.out.fb.c0
                have b1 := HM.out.fb.c1
                have c1 := HM.out.gb.c1
                have e0 := HAT.out.c0
                have t0 := HX.out.c0
                have t1 := HX.out.c1
                by_cases hx1 : x1 = 0
                · subst hx1
                  obtain ⟨hKok, hal⟩ := clone_exact HSD.out.ok HGV.out HC.out
                  have hal : (canCloneF F nm = 0 ∧ 0 ≤ roomF K) ∨ (canCloneF F nm = 11 ∧ roomF K < 0) := hal
                  obtain ⟨rm, hrm⟩ : ∃ x, roomF K = x := ⟨_, rfl⟩
                  rw [hrm] at hal
                  have HRM := Lib.hid hrm
                  have HKOK := Lib.hid hKok
                  clear hrm hKok
                  rcases hal with ⟨hcc, hr9⟩ | ⟨hcc, hr9⟩
                  · have HCC := Lib.hid hcc
                    have hd : decide (0 ≤ rm) = true := decide_eq_true hr9
                    clear hcc
                    refine wp_region_next (by kernel_rfl) (by kernel_rfl) ?_
                    repeat (go_big_quiet_step ((first | (go_at_call 51; exact Calls.next_of (tclone_is F 0 _ nm _ HSD.out.ok HSD.out.short (HM.out.fam.keep (World.below_next _ _)) HNL.out HCC.out)) | (go_at_call 46; exact Calls.next_of (qroom_is K rm _ _ HKOK.out (HFK.out.keep (World.below_next _ _)) HRM.out)))))
                    refine wpQuiet_nil ?_
                    intro _ hw'
                    obtain ⟨nq, hw''⟩ := hw'
                    subst hw''
                    have HQ9 : Hid (FalC W3 (.bool false) (W3.next nq)) := Lib.hid ⟨rfl, World.below_next _ nq⟩
                    clear b0 b1 c1 e0 t0 t1 hd hr9
                    go_wp2_with fail
                    go_meet
                    exact HQ9.out
                  · have HCC := Lib.hid hcc
                    have hd : decide (0 ≤ rm) = false := decide_eq_false (by omega)
                    clear hcc
                    refine wp_region_next (by kernel_rfl) (by kernel_rfl) ?_
                    repeat (go_big_quiet_step ((first | (go_at_call 51; exact Calls.next_of (tclone_is F 11 _ nm _ HSD.out.ok HSD.out.short (HM.out.fam.keep (World.below_next _ _)) HNL.out HCC.out)) | (go_at_call 46; exact Calls.next_of (qroom_is K rm _ _ HKOK.out (HFK.out.keep (World.below_next _ _)) HRM.out)))))
                    refine wpQuiet_nil ?_
                    intro _ hw'
                    obtain ⟨nq, hw''⟩ := hw'
                    subst hw''
                    have HQ9 : Hid (FalC W3 (.bool false) (W3.next nq)) := Lib.hid ⟨rfl, World.below_next _ nq⟩
                    clear b0 b1 c1 e0 t0 t1 hd hr9
                    go_wp2_with fail
                    go_meet
                    exact HQ9.out
                · have d0 : (x1 == 0) = false := by simpa using hx1
                  clear hx1
                  refine wp_region_next (by kernel_rfl) (by kernel_rfl) ?_
                  repeat (go_big_quiet_step (fail))
                  refine wpQuiet_nil ?_
                  intro _ hw'
                  obtain ⟨nq, hw''⟩ := hw'
                  subst hw''
                  have HQ9 : Hid (FalC W3 (.bool false) (W3.next nq)) := Lib.hid ⟨rfl, World.below_next _ nq⟩
                  clear b0 b1 c1 e0 t0 t1
                  go_wp2_with fail
                  go_meet
                  exact HQ9.out
              case rest =>
                obtain ⟨rfl, hbc⟩ := hcut
                obtain ⟨W4, rfl⟩ : ∃ W2 : World, W2 = wc := ⟨_, rfl⟩
                have HM := Lib.hid (HM.out.later hbc)
                have HAT := Lib.hid (HAT.out.keep hbc)
                have HB0 := Lib.hid (HB0.out.on hbc)
                clear hbc HX HFK HC
                have c1 := HM.out.gb.c1
                have e0 := HAT.out.c0
                have e1 := HAT.out.c1
                go_upto_region 22 with fail
                refine wp_region_next (by kernel_rfl) (by kernel_rfl) ?_
                repeat (go_big_quiet_step (fail))
                refine wpQuiet_nil ?_
                intro _ hw'
                obtain ⟨nq, hw''⟩ := hw'
                subst hw''
                have HM := Lib.hid (HM.out.later (World.below_next _ nq))
                have HB0 := Lib.hid (HB0.out.on (World.below_next _ nq))
                clear c1 e0 e1 HAT
                have c0 := HM.out.gb.c0
                have c1 := HM.out.gb.c1
                go_wp2_with fail
                refine (qneed_is F rs 0 _ nm 0 yn9 _ HSD.out.ok HSD.out.short HM.out.famr HNL.out HND.out).mono ?_
                rintro e v7 ⟨rfl, hb⟩
                have HM := Lib.hid (HM.out.later hb)
                have HB0 := Lib.hid (HB0.out.on hb)
                clear hb c0 c1
                have b0 := HM.out.fb.c0
                have b1 := HM.out.fb.c1
                by_cases hz : rs = 0
                · have HCX := Lib.hid (HCW.out hz)
                  clear HCW
                  subst hz
                  go_wp2_with fail
                  refine (twrite_is F 0 _ nm 0 yn9 _ HSD.out.ok HSD.out.short HM.out.fam HNL.out (by omega) (by omega) HCX.out).mono ?_
                  rintro e v8 ⟨rfl, hb⟩
                  have HB0 := Lib.hid (HB0.out.on hb)
                  clear hb b0 b1
                  go_wp2_with fail
                  go_roundw
                  case rel => exact ⟨j + 1, by omega, by go_num, HB0.out⟩
                  case measure => simp [intOf]; omega
                · have hz0 : (rs == 0) = false := by simpa using hz
                  clear hz
                  go_wp2_with fail
                  go_roundw
                  case rel => exact ⟨j + 1, by omega, by go_num, HB0.out⟩
                  case measure => simp [intOf]; omega
          · obtain rfl : j = ts.length := by omega
            have hB9 := HK0.out.on (HQ.out.B.on hB)
            clear hB d0 d1
            have d1 := HM.out.gb.c1
            go_wp2_with fail
            go_ret
            exact ⟨rfl, hB9⟩
end Go.Proofs.YtpakjddfnhnndaaGreat
