/-
  tegulalaw36: the statements' helper build.
  Conditions: as the theorem says.
-/
import Derived.Test.YtpakjddfnhnndaaGreatFcS
namespace Go.Proofs.YtpakjddfnhnndaaGreat
set_option linter.unusedSimpArgs false
set_option linter.unusedVariables false
set_option maxRecDepth 100000
open Go.RowKit Go.Maps

abbrev StC (w : World) (b o : Nat) (s : Step36) : Prop := w.cell? ⟨b, o, none⟩ = some (.int .u8 s.k) ∧ w.cell? ⟨b, o + 1, none⟩ = some (.int .u8 s.v) ∧ w.cell? ⟨b, o + 2, none⟩ = some (.int .u8 s.o) ∧ w.cell? ⟨b, o + 3, none⟩ = some (.int .u8 s.a) ∧ w.cell? ⟨b, o + 4, none⟩ = some (.int .u8 s.n) ∧ w.cell? ⟨b, o + 5, none⟩ = some (.int .u8 s.s)
theorem StepAt36.cells {w : World} {b o k : Nat} {s : Step36} (h : StepAt36 w b o k s) : StC w b (o + k * 6) s := ⟨h.c0, h.c1, h.c2, h.c3, h.c4, h.c5⟩
def ApC (w1 : World) (fam : World → Value → Fam → Prop) (t : TypeId) (G : Fam) (L : List E) (x0 : Int) (p q r : Value) (W : World) : Prop :=
  ∃ T u v sa sc, p = .pointer (some ⟨T, 0, none⟩) ∧ q = .slice sa L.length sc ∧ r = .int .i64 x0 ∧ Bx W T t u v ∧ fam W (.agg #[u, v]) G ∧ Rd W sa L ∧ Below w1.heap.size w1 W ∧ w1.heap.size ≤ T
theorem step_short (F : Fam) (s : Step36) : (stepF F s).2.1.length ≤ 46912496118443 := by
  have h : ∀ F G : Fam, (freedF F G).length ≤ 46912496118443 := fun F G => by have := freedF_short F G; omega
  unfold stepF
  split
  · simp
  split
  · simp
  split
  · unfold deleteF
    split
    · simp
    exact h _ _
  split
  · unfold unmapF
    split
    · simp
    split
    · simp
    exact h _ _
  unfold assignF
  split
  · simp
  split
  · simp
  exact h _ _
set_option maxHeartbeats 16000000 in
theorem build36_is (n : Nat) (S : List Step36) (a : Option Addr) (c : Nat) (w : World) (hn : n ≤ 255) (hr : RdS36 w a S) :
    Calls Tryz.prog 23 #[.int .u8 n, .slice a S.length c] w (BuildPost36 (n % 50) w) := by
  have hm0 : n % 50 ≤ 65536 := by omega
  have hmod : ((n : Int) % 50) = ((n % 50 : Nat) : Int) := by omega
  have hSl := hr.1
  obtain ⟨m, hm⟩ : ∃ m, m = n % 50 := ⟨_, rfl⟩
  have HM := Lib.hid hmod
  rw [← hm] at hm0 HM ⊢
  have hm50 : m < 50 := by omega
  obtain ⟨F0, hF0⟩ : ∃ F, F = (⟨m, []⟩ : Fam) := ⟨_, rfl⟩
  have HF0 := Lib.hid hF0
  have HRS := Lib.hid hr
  clear hm hmod hF0 hr
  have h1 := (Below.refl w.heap.size w).onAlloc (.cells #[.slice none 0 0, .map none] 28)
  have h2 := h1.onAlloc (.cells #[.int .i64 0, .slice none 0 0] 45)
  have HR1 := Lib.hid ((Bx.new w _ rfl (.slice none 0 0) (.map none) 28).later ((Below.refl _ _).onAlloc (.cells #[.int .i64 0, .slice none 0 0] 45)))
  have HR2 := Lib.hid (Bx.new (w.alloc (.cells #[.slice none 0 0, .map none] 28)) (w.heap.size + 1) (by simp) (.int .i64 0) (.slice none 0 0) 45)
  have HBW := Lib.hid h2
  clear h1 h2
  go_enter Tryz.func23, Tryz.ntmps23
  go_wp2_with fail
  rw [HM.out]
  refine (fnew_yes m _ hm0).mono ?_
  rintro e w1 ⟨fv, rfl, hf, hb⟩
  have hf : FamV w1 fv F0 := by rw [HF0.out]; exact hf
  obtain ⟨fa, fc, fm, rfl⟩ := hf.form
  have hk := (Below.refl w1.heap.size w1).onAlloc (.cells #[.slice fa F0.N fc, .map fm] 28)
  have HF1 := Lib.hid (hf.keep hk)
  have HX1 := Lib.hid (Bx.new w1 _ rfl (.slice fa F0.N fc) (.map fm) 28)
  have HR1 := Lib.hid ((HR1.out.later hb).later hk)
  have HR2 := Lib.hid ((HR2.out.later hb).later hk)
  have HBW := Lib.hid ((HBW.out.on hb).on hk)
  have ho1 : w.heap.size + 1 < w1.heap.size := by have := hb.size; simp only [World.size_alloc] at this; omega
  clear hk hf hb
  go_wp2_with fail
  rw [HM.out]
  refine (rfnew_is m _ hm0).mono ?_
  rintro e w2 ⟨gv, rfl, hg, hb⟩
  have hg : FamR w2 gv F0 := by rw [HF0.out]; exact hg
  obtain ⟨ra, rn, rc, rfl⟩ := hg.form
  have hk := (Below.refl w2.heap.size w2).onAlloc (.cells #[.int .i64 F0.N, .slice ra rn rc] 45)
  have hT9 : w1.heap.size < w2.heap.size := by have := hb.size; simp only [World.size_alloc] at this; omega
  have HP : Hid (BB w (w2.alloc (.cells #[.int .i64 F0.N, .slice ra rn rc] 45)) w1.heap.size w2.heap.size (.slice fa F0.N fc) (.map fm) (.int .i64 F0.N) (.slice ra rn rc) F0) :=
    Lib.hid ⟨(HX1.out.later hb).later hk, Bx.new w2 _ rfl _ _ _, (HF1.out.keep hb).keep hk, hg.keep hk, (HR1.out.later hb).later hk, (HR2.out.later hb).later hk, ho1, hT9, (HBW.out.on hb).on hk⟩
  have HGD0 : Hid F0.good := Lib.hid (by rw [HF0.out]; exact good_new m hm0)
  have HN0 : Hid (F0.N = m) := Lib.hid (by rw [HF0.out])
  clear hk hg hb ho1 hT9 HF1 HX1 HR1 HR2 HBW
  go_wp2_with fail
  generalize w2.alloc (.cells #[.int .i64 F0.N, .slice ra rn rc] 45) = w3 at *
  generalize w1.heap.size = T at *
  generalize w2.heap.size = S9 at *
  go_loopw [11] (fun i wr => ∃ (k : Nat) (F : Fam) (u v x y : Value), k ≤ S.length ∧ i = .int .i64 k ∧ F.good ∧ F.N = m ∧ BB w wr T S9 u v x y F) (fun i _ => S.length - (intOf i).toNat)
  case atStart => exact ⟨0, F0, _, _, _, _, Nat.zero_le _, rfl, HGD0.out, HN0.out, HP.out⟩
  case round =>
    clear HP HGD0 HN0 HF0
    obtain ⟨k, F, u, v, x, y, hk, rfl, hgd, hFN, hp⟩ := hrel
    obtain ⟨fa, fc, fm, he⟩ := hp.fam.form
    obtain ⟨rfl, rfl⟩ : u = .slice fa F.N fc ∧ v = .map fm := by
      injection he with he
      have h1 := congrArg Array.toList he
      simp at h1
      exact h1
    obtain ⟨ra, rn, rc, he⟩ := hp.famr.form
    obtain ⟨rfl, rfl⟩ : x = .int .i64 F.N ∧ y = .slice ra rn rc := by
      injection he with he
      have h1 := congrArg Array.toList he
      simp at h1
      exact h1
    have HP := Lib.hid hp
    have HGD := Lib.hid hgd
    have HFN := Lib.hid hFN
    clear hp hgd hFN he
    by_cases hlt : k < S.length
    · obtain ⟨sb, so, rfl, hat⟩ := (HRS.out.keep HP.out.B).at (by omega)
      have hst := hat k _ (List.getElem?_eq_getElem hlt)
      generalize S[k] = s at *
      have HST := Lib.hid hst
      clear hst hat
      obtain ⟨G, L, x0, hcr⟩ : ∃ G L x0, stepF F s = (G, L, x0) := ⟨_, _, _, rfl⟩
      have HC := Lib.hid hcr
      have HLL : Hid (L.length ≤ 46912496118443) := Lib.hid (by have := step_short F s; rw [hcr] at this; exact this)
      have HGG : Hid (G.good) := Lib.hid (by have := good_step HGD.out HST.out.ok; rw [hcr] at this; exact this)
      have HGN : Hid (x0 = 0 → G.N = m) := Lib.hid (fun h0 => by have := step_N F s (by rw [hcr]; exact h0); rw [hcr] at this; exact this.trans HFN.out)
      have hk0 : (0 : Int) ≤ k := by omega
      have hk1 : (k : Int) < S.length := by omega
      clear hcr
      go_upto_region 6 with fail
      skip
      have HV := Lib.hid (HP.out.later (Below.refl _ _).drew)
      have HSV := Lib.hid (HST.out.keep (Below.refl _ _).drew)
      have h9d : wr.drew.heap.size = wr.heap.size := rfl
      go_cut [12, 13, 14] from 42 to 52 (fun p q r wx => ApC wr FamV 28 G L x0 p q r wx)
      case first =>
        have HB1 : Hid (Bx (wr.alloc (.cells #[(.slice none 0 0), (.map none)] 28)).drew wr.heap.size 28 (.slice none 0 0) (.map none)) := Lib.hid ((Bx.new wr _ rfl (.slice none 0 0) (.map none) 28).later (Below.refl _ _).drew)
        have hAL : Below wr.drew.heap.size wr.drew (wr.alloc (.cells #[(.slice none 0 0), (.map none)] 28)).drew := (Below.refl wr.drew.heap.size wr.drew).onAlloc (.cells #[(.slice none 0 0), (.map none)] 28)
        have HAV := Lib.hid (HV.out.later hAL)
        have HAS := Lib.hid (HSV.out.keep hAL)
        have HAL := Lib.hid hAL
        clear hAL
        go_region_held3 (fun w' => w'.cell? ⟨T, 0, none⟩ = some (.slice fa F.N fc) ∧ w'.cell? ⟨T, 1, none⟩ = some (.map fm) ∧ StC w' sb (so + k * 6) s ∧ Below wr.drew.heap.size wr.drew w')
          (first
            | with_reducible exact ⟨HV.out.fb.c0, HV.out.fb.c1, HSV.out.cells, Below.refl _ _⟩
            | with_reducible exact ⟨HAV.out.fb.c0, HAV.out.fb.c1, HAS.out.cells, HAL.out⟩
            | with_reducible exact ⟨HVK.out.fb.c0, HVK.out.fb.c1, HSK.out.cells, hWK⟩
            | with_reducible exact ⟨HVL.out.fb.c0, HVL.out.fb.c1, HSL.out.cells, hWL⟩
            | with_reducible exact ⟨HVR.out.fb.c0, HVR.out.fb.c1, HSR.out.cells, hWR⟩
            | with_reducible exact ⟨HVP.out.fb.c0, HVP.out.fb.c1, HSP.out.cells, hWP⟩)
          (first
            | (go_at_call 24; have hW := (‹_ ∧ _ ∧ _ ∧ Below wr.drew.heap.size wr.drew _›).2.2.2; have hq := papply_is F _ s _ HGD.out.1 (small_short HGD.out.1 HGD.out.2) (HV.out.later hW).fam HST.out.ok; rw [HC.out] at hq; refine hq.mono ?_; rintro e w3 ⟨gv, sv, rfl, hg, hso, hb3⟩; obtain ⟨ga, gc, gm, rfl⟩ := hg.form; obtain ⟨sa, sc, rfl, hrs⟩ := hso.rd HLL.out; have hWK := hW.on hb3; have HVK := Lib.hid (HV.out.later hWK); have HSK := Lib.hid (HSV.out.keep hWK); have hWL := hWK.onAlloc (.cells #[.slice ga G.N gc, .map gm] 28); have HVL := Lib.hid (HV.out.later hWL); have HSL := Lib.hid (HSV.out.keep hWL); have hWR := hWK.onAlloc (.cells #[(.slice none 0 0), (.map none)] 28); have HVR := Lib.hid (HV.out.later hWR); have HSR := Lib.hid (HSV.out.keep hWR); have hWP : Below wr.drew.heap.size wr.drew (fam2 w3 wr.heap.size (.slice ga G.N gc) (.map gm)) := (hWK.setCell (Nat.le_refl _) _).setCell (Nat.le_refl _) _; have HVP := Lib.hid (HV.out.later hWP); have HSP := Lib.hid (HSV.out.keep hWP); (try (have HBX := Lib.hid (HB1.out.later hb3); have t0 := HBX.out.c0; have t1 := HBX.out.c1; have t2 := HBX.out.f0; have t3 := HBX.out.f1))))
        · have h13 := (Below.refl wr.heap.size wr).drew.on hWK
          have hk9 := (Below.refl w3.heap.size w3).onAlloc (.cells #[.slice ga G.N gc, .map gm] 28)
          have HQ : Hid (ApC wr FamV 28 G L x0 (.pointer (some ⟨w3.heap.size, 0, none⟩)) (.slice sa L.length sc) (.int .i64 x0) (w3.alloc (.cells #[.slice ga G.N gc, .map gm] 28))) :=
            Lib.hid ⟨_, _, _, sa, sc, rfl, rfl, rfl, Bx.new w3 _ rfl (.slice ga G.N gc) (.map gm) 28, hg.keep hk9, hrs.keep hk9, h13.onAlloc _, h13.size⟩
          clear h13 hk9 hg hso hrs hb3 hq hWK hWL hWR hWP hW
          go_wp2_with fail
          go_meet
          exact HQ.out
        · have h13 := (Below.refl wr.heap.size wr).drew.on hWK
          have HQ : Hid (ApC wr FamV 28 G L x0 (.pointer (some ⟨wr.heap.size, 0, none⟩)) (.slice sa L.length sc) (.int .i64 x0) (fam2 w3 wr.heap.size (.slice ga G.N gc) (.map gm))) :=
            Lib.hid ⟨_, _, _, sa, sc, rfl, rfl, rfl, HBX.out.put _ _, HBX.out.famV famTy hg, HBX.out.rd hrs, (h13.setCell (Nat.le_refl _) _).setCell (Nat.le_refl _) _, Nat.le_refl _⟩
          clear h13 hg hso hrs hb3 hq hWK hWL hWR hWP hW t0 t1 t2 t3
          go_wp2_with fail
          go_meet
          exact HQ.out
      case rest =>
        obtain ⟨TA, ua, va, qa, qc, rfl, rfl, rfl, hbx, hfm, hrd, hbl, hTA⟩ := hcut
        obtain ⟨WA, rfl⟩ : ∃ W2 : World, W2 = wc := ⟨_, rfl⟩
        have HXA := Lib.hid hbx
        have HFA := Lib.hid hfm
        have HRA := Lib.hid hrd
        have HTA : Hid (S9 < TA) := Lib.hid (by have := HP.out.gb.lt; omega)
        have HP := Lib.hid (HP.out.later hbl)
        have HST := Lib.hid (HST.out.keep hbl)
        clear hbx hfm hrd hbl hTA HV HSV h9d
        generalize wr = wo at *
        generalize WA = wr at *
        go_upto_region 7 with fail
        skip
        have HV := Lib.hid (HP.out.later (Below.refl _ _).drew)
        have HSV := Lib.hid (HST.out.keep (Below.refl _ _).drew)
        have h9d : wr.drew.heap.size = wr.heap.size := rfl
        go_cut [15, 16, 17] from 52 to 62 (fun p q r wx => ApC wr FamR 45 G L x0 p q r wx)
        case first =>
          have HB1 : Hid (Bx (wr.alloc (.cells #[(.int .i64 0), (.slice none 0 0)] 45)).drew wr.heap.size 45 (.int .i64 0) (.slice none 0 0)) := Lib.hid ((Bx.new wr _ rfl (.int .i64 0) (.slice none 0 0) 45).later (Below.refl _ _).drew)
          have hAL : Below wr.drew.heap.size wr.drew (wr.alloc (.cells #[(.int .i64 0), (.slice none 0 0)] 45)).drew := (Below.refl wr.drew.heap.size wr.drew).onAlloc (.cells #[(.int .i64 0), (.slice none 0 0)] 45)
          have HAV := Lib.hid (HV.out.later hAL)
          have HAS := Lib.hid (HSV.out.keep hAL)
          have HAL := Lib.hid hAL
          clear hAL
          go_region_held3 (fun w' => w'.cell? ⟨S9, 0, none⟩ = some (.int .i64 F.N) ∧ w'.cell? ⟨S9, 1, none⟩ = some (.slice ra rn rc) ∧ StC w' sb (so + k * 6) s ∧ Below wr.drew.heap.size wr.drew w')
            (first
              | with_reducible exact ⟨HV.out.gb.c0, HV.out.gb.c1, HSV.out.cells, Below.refl _ _⟩
              | with_reducible exact ⟨HAV.out.gb.c0, HAV.out.gb.c1, HAS.out.cells, HAL.out⟩
              | with_reducible exact ⟨HVK.out.gb.c0, HVK.out.gb.c1, HSK.out.cells, hWK⟩
              | with_reducible exact ⟨HVL.out.gb.c0, HVL.out.gb.c1, HSL.out.cells, hWL⟩
              | with_reducible exact ⟨HVR.out.gb.c0, HVR.out.gb.c1, HSR.out.cells, hWR⟩
              | with_reducible exact ⟨HVP.out.gb.c0, HVP.out.gb.c1, HSP.out.cells, hWP⟩)
            (first
              | (go_at_call 35; have hW := (‹_ ∧ _ ∧ _ ∧ Below wr.drew.heap.size wr.drew _›).2.2.2; have hq := rapply_is F _ s _ HGD.out.1 (HV.out.later hW).famr HST.out.ok; rw [HC.out] at hq; refine hq.mono ?_; rintro e w3 ⟨gv, sv, rfl, hg, hso, hb3⟩; obtain ⟨ga, gn, gc, rfl⟩ := hg.form; obtain ⟨sa, sc, rfl, hrs⟩ := hso.rd HLL.out; have hWK := hW.on hb3; have HVK := Lib.hid (HV.out.later hWK); have HSK := Lib.hid (HSV.out.keep hWK); have hWL := hWK.onAlloc (.cells #[.int .i64 G.N, .slice ga gn gc] 45); have HVL := Lib.hid (HV.out.later hWL); have HSL := Lib.hid (HSV.out.keep hWL); have hWR := hWK.onAlloc (.cells #[(.int .i64 0), (.slice none 0 0)] 45); have HVR := Lib.hid (HV.out.later hWR); have HSR := Lib.hid (HSV.out.keep hWR); have hWP : Below wr.drew.heap.size wr.drew (fam2 w3 wr.heap.size (.int .i64 G.N) (.slice ga gn gc)) := (hWK.setCell (Nat.le_refl _) _).setCell (Nat.le_refl _) _; have HVP := Lib.hid (HV.out.later hWP); have HSP := Lib.hid (HSV.out.keep hWP); (try (have HBX := Lib.hid (HB1.out.later hb3); have t0 := HBX.out.c0; have t1 := HBX.out.c1; have t2 := HBX.out.f0; have t3 := HBX.out.f1))))
          · have h13 := (Below.refl wr.heap.size wr).drew.on hWK
            have hk9 := (Below.refl w3.heap.size w3).onAlloc (.cells #[.int .i64 G.N, .slice ga gn gc] 45)
            have HQ : Hid (ApC wr FamR 45 G L x0 (.pointer (some ⟨w3.heap.size, 0, none⟩)) (.slice sa L.length sc) (.int .i64 x0) (w3.alloc (.cells #[.int .i64 G.N, .slice ga gn gc] 45))) :=
              Lib.hid ⟨_, _, _, sa, sc, rfl, rfl, rfl, Bx.new w3 _ rfl (.int .i64 G.N) (.slice ga gn gc) 45, hg.keep hk9, hrs.keep hk9, h13.onAlloc _, h13.size⟩
            clear h13 hk9 hg hso hrs hb3 hq hWK hWL hWR hWP hW
            go_wp2_with fail
            go_meet
            exact HQ.out
          · have h13 := (Below.refl wr.heap.size wr).drew.on hWK
            have HQ : Hid (ApC wr FamR 45 G L x0 (.pointer (some ⟨wr.heap.size, 0, none⟩)) (.slice sa L.length sc) (.int .i64 x0) (fam2 w3 wr.heap.size (.int .i64 G.N) (.slice ga gn gc))) :=
              Lib.hid ⟨_, _, _, sa, sc, rfl, rfl, rfl, HBX.out.put _ _, HBX.out.famR hg, HBX.out.rd hrs, (h13.setCell (Nat.le_refl _) _).setCell (Nat.le_refl _) _, Nat.le_refl _⟩
            clear h13 hg hso hrs hb3 hq hWK hWL hWR hWP hW t0 t1 t2 t3
            go_wp2_with fail
            go_meet
            exact HQ.out
        case rest =>
          obtain ⟨TB, ub, vb, pa, pc, rfl, rfl, rfl, hbx, hfm, hrd, hbl, hTB⟩ := hcut
          obtain ⟨WB, rfl⟩ : ∃ W2 : World, W2 = wc := ⟨_, rfl⟩
          have HXB := Lib.hid hbx
          have HFB := Lib.hid hfm
          have HRB := Lib.hid hrd
          have HTB : Hid (T < TB) := Lib.hid (by have := HTA.out; have := HXA.out.lt; have := HP.out.o2; have := HP.out.gb.lt; omega)
          have HP := Lib.hid (HP.out.later hbl)
          have HXA := Lib.hid (HXA.out.later hbl)
          have HFA := Lib.hid (HFA.out.keep hbl)
          have HRA := Lib.hid (HRA.out.keep hbl)
          clear hbx hfm hrd hbl hTB HV HSV h9d
          go_wp2_with fail
          refine (same_is L L qa pa qc pc true _ (sameB_refl _) HRA.out HRB.out).mono ?_
          rintro e w8 ⟨rfl, hb8⟩
          have HP := Lib.hid (HP.out.later hb8)
          have HXA := Lib.hid (HXA.out.later hb8)
          have HFA := Lib.hid (HFA.out.keep hb8)
          have HXB := Lib.hid (HXB.out.later hb8)
          have HFB := Lib.hid (HFB.out.keep hb8)
          clear hb8 HRA HRB HST
          by_cases hx0 : x0 = 0
          · have HX0 := Lib.hid hx0
            subst hx0
            obtain ⟨ga, gc, gm, he⟩ := HFA.out.form
            obtain ⟨rfl, rfl⟩ : ua = .slice ga G.N gc ∧ va = .map gm := by
              injection he with he
              have h1 := congrArg Array.toList he
              simp at h1
              exact h1
            obtain ⟨ya, yn, yc, he⟩ := HFB.out.form
            obtain ⟨rfl, rfl⟩ : ub = .int .i64 G.N ∧ vb = .slice ya yn yc := by
              injection he with he
              have h1 := congrArg Array.toList he
              simp at h1
              exact h1
            clear he
            go_upto_region 11 with fail
            have HV := HP
            have HVA := HXA
            have HVB := HXB
            have p0 := HV.out.fb.c0
            have p1 := HV.out.fb.c1
            have p2 := HV.out.fb.f0
            have p3 := HV.out.fb.f1
            have q0 := HV.out.gb.c0
            have q1 := HV.out.gb.c1
            have q2 := HV.out.gb.f0
            have q3 := HV.out.gb.f1
            have a0 := HVA.out.c0
            have a1 := HVA.out.c1
            have d0 := HVB.out.c0
            have d1 := HVB.out.c1
            have hT9 := HP.out.o2
            have hA9 : TA ≠ S9 := by have := HTA.out; omega
            have hB9 : TB ≠ T := by have := HTB.out; omega
            have m0 := (HXB.out.far hB9 (.slice ga G.N gc) (.map gm)).c0
            have m1 := (HXB.out.far hB9 (.slice ga G.N gc) (.map gm)).c1
            have m2 := (HXA.out.far hA9 (.int .i64 G.N) (.slice ya yn yc)).c0
            have m3 := (HXA.out.far hA9 (.int .i64 G.N) (.slice ya yn yc)).c1
            have n0 := (HP.out.gb.far (R := T) (by omega) (.slice ga G.N gc) (.map gm)).c0
            have n1 := (HP.out.gb.far (R := T) (by omega) (.slice ga G.N gc) (.map gm)).c1
            have n2 := (HP.out.fb.far (R := S9) (by omega) (.int .i64 G.N) (.slice ya yn yc)).c0
            have n3 := (HP.out.fb.far (R := S9) (by omega) (.int .i64 G.N) (.slice ya yn yc)).c1
            clear hT9 hA9 hB9
            go_region_law (fail)
            all_goals
              have HQ := Lib.hid ((BB.put HP.out HFA.out HFB.out).later (Below.refl _ _).drew)
              clear p0 p1 p2 p3 q0 q1 q2 q3 a0 a1 d0 d1 m0 m1 m2 m3 n0 n1 n2 n3 HP HFA HFB HXA HXB HVA HVB HV
              go_wp2_with fail
              go_roundw
              case rel => exact ⟨k + 1, G, _, _, _, _, by omega, by go_num, HGG.out, HGN.out (by trivial), HQ.out⟩
              case measure => simp [intOf]; omega
          · have d0 : (x0 == 0) = false := by simpa using hx0
            clear hx0
            go_wp2_with fail
            go_roundw
            case rel => exact ⟨k + 1, F, _, _, _, _, by omega, by go_num, HGD.out, HFN.out, HP.out⟩
            case measure => simp [intOf]; omega
    · obtain rfl : k = S.length := by omega
      have e0 := HP.out.fb.c0
      have e1 := HP.out.fb.c1
      have e2 := HP.out.gb.c0
      have e3 := HP.out.gb.c1
      go_upto_region 12 with fail
      have HPD := Lib.hid (HP.out.later (Below.refl _ _).drew)
      clear e0 e1 e2 e3
      go_region_held3 (fun w' => w'.cell? ⟨T, 0, none⟩ = some (.slice fa F.N fc) ∧ w'.cell? ⟨T, 1, none⟩ = some (.map fm) ∧ w'.cell? ⟨S9, 0, none⟩ = some (.int .i64 F.N) ∧ w'.cell? ⟨S9, 1, none⟩ = some (.slice ra rn rc))
        (first
          | with_reducible exact ⟨HPD.out.fb.c0, HPD.out.fb.c1, HPD.out.gb.c0, HPD.out.gb.c1⟩
          | with_reducible exact ⟨HP5.out.fb.c0, HP5.out.fb.c1, HP5.out.gb.c0, HP5.out.gb.c1⟩
          | with_reducible exact ⟨HF6.out.c0, HF6.out.c1, HG6.out.c0, HG6.out.c1⟩
          | with_reducible exact ⟨HF7.out.c0, HF7.out.c1, HG7.out.c0, HG7.out.c1⟩
          | with_reducible exact ⟨HF8.out.c0, HF8.out.c1, HG8.out.c0, HG8.out.c1⟩
          | (trace_state; sorry))
        (first
          | (go_at_call 34; refine (same36_is F (.agg #[.slice fa F.N fc, .map fm]) (.agg #[.int .i64 F.N, .slice ra rn rc]) _ HGD.out.1 (small_short HGD.out.1 HGD.out.2) HPD.out.fam HPD.out.famr).mono ?_; rintro e w5 ⟨rfl, hb5⟩; have HP5 := Lib.hid (HPD.out.later hb5); have r0 := HP5.out.r1.c0; have r1 := HP5.out.r1.c1; have r2 := HP5.out.r1.f0; have r3 := HP5.out.r1.f1; have s0 := HP5.out.r2.c0; have s1 := HP5.out.r2.c1; have s2 := HP5.out.r2.f0; have s3 := HP5.out.r2.f1; have ho1 := HP5.out.o1; have ho2 := HP5.out.o2; have m2 := (HP5.out.r2.far (R := w.heap.size) (by omega) (.slice fa F.N fc) (.map fm)).c0; have m3 := (HP5.out.r2.far (R := w.heap.size) (by omega) (.slice fa F.N fc) (.map fm)).c1; have HF6 := Lib.hid (HP5.out.fb.far (R := w.heap.size) (by omega) (.slice fa F.N fc) (.map fm)); have HG6 := Lib.hid (HP5.out.gb.far (R := w.heap.size) (by omega) (.slice fa F.N fc) (.map fm)); have HF7 := Lib.hid (HF6.out.far (R := w.heap.size + 1) (by omega) (.int .i64 F.N) (.slice ra rn rc)); have HG7 := Lib.hid (HG6.out.far (R := w.heap.size + 1) (by omega) (.int .i64 F.N) (.slice ra rn rc)); have HF8 := Lib.hid (HP5.out.fb.far (R := w.heap.size + 1) (by omega) (.int .i64 F.N) (.slice ra rn rc)); have HG8 := Lib.hid (HP5.out.gb.far (R := w.heap.size + 1) (by omega) (.int .i64 F.N) (.slice ra rn rc)); clear ho1 ho2))
      all_goals
        obtain ⟨z1, z2, z3, z4, z5⟩ := HP5.out.res
        have HZ1 := Lib.hid z1
        have HZ2 := Lib.hid z2
        have HZ3 := Lib.hid z3
        have j0 := z4.c0
        have j1 := z4.c1
        have j2 := z5.c0
        have j3 := z5.c1
        clear z1 z2 z3 z4 z5 r0 r1 r2 r3 s0 s1 s2 s3 m2 m3 HF6 HG6 HF7 HG7 HF8 HG8 hb5
        go_wp2_with fail
        refine bodyPost_ret (v := .tuple #[.agg #[.slice fa F.N fc, .map fm], .agg #[.int .i64 F.N, .slice ra rn rc], .bool true]) ?_ rfl ⟨F, _, _, rfl, HGD.out, HFN.out, HZ1.out, HZ2.out, HZ3.out⟩
        simp [results, Tryz.results23, go_sem, j0, j1, j2, j3]
end Go.Proofs.YtpakjddfnhnndaaGreat
