/-
  tegularef36: Apply.
  Conditions: as each theorem says.
-/
import Derived.Test.YtpakjddfnhnndaaGreatFcL
namespace Go.Proofs.YtpakjddfnhnndaaGreat
set_option linter.unusedSimpArgs false
set_option linter.unusedVariables false
set_option maxRecDepth 100000
open Go.RowKit Go.Maps

/-- A step in a box. -/
structure SX (W : World) (X : Nat) (s : Step36) : Prop where
  s0 : W.cell? ⟨X, 0, none⟩ = some (.int .u8 s.k)
  s1 : W.cell? ⟨X, 1, none⟩ = some (.int .u8 s.v)
  s2 : W.cell? ⟨X, 2, none⟩ = some (.int .u8 s.o)
  s3 : W.cell? ⟨X, 3, none⟩ = some (.int .u8 s.a)
  s4 : W.cell? ⟨X, 4, none⟩ = some (.int .u8 s.n)
  s5 : W.cell? ⟨X, 5, none⟩ = some (.int .u8 s.s)
abbrev Step36.val (s : Step36) : Value := .agg #[.int .u8 s.k, .int .u8 s.v, .int .u8 s.o, .int .u8 s.a, .int .u8 s.n, .int .u8 s.s]
theorem SX.later {W W' : World} {X : Nat} {s : Step36} (h : SX W X s) (hb : Below W.heap.size W W') : SX W' X s :=
  ⟨hb.keep h.s0, hb.keep h.s1, hb.keep h.s2, hb.keep h.s3, hb.keep h.s4, hb.keep h.s5⟩
theorem SX.new (V : World) (B : Nat) (hB : V.heap.size = B) (s : Step36) (t : TypeId) : SX (V.alloc (.cells #[.int .u8 s.k, .int .u8 s.v, .int .u8 s.o, .int .u8 s.a, .int .u8 s.n, .int .u8 s.s] t)) B s := by
  subst hB
  exact ⟨by simp, by simp, by simp, by simp, by simp, by simp⟩
/-- The head of apply: the family, the step, the result. -/
structure PH (w W : World) (t : TypeId) (u v z0 z1 : Value) (s : Step36) : Prop where
  fb : Bx W w.heap.size t u v
  sx : SX W (w.heap.size + 1) s
  rb : Bx W (w.heap.size + 1 + 1) t z0 z1
  B : Below w.heap.size w W
theorem PH.later {w W W' : World} {t : TypeId} {u v z0 z1 : Value} {s : Step36} (h : PH w W t u v z0 z1 s) (hb : Below W.heap.size W W') : PH w W' t u v z0 z1 s :=
  ⟨h.fb.later hb, h.sx.later hb, h.rb.later hb, h.B.on hb⟩
theorem PH.init (w W : World) (t ts : TypeId) (u v z0 z1 : Value) (s : Step36) (hW : W = ((w.alloc (.cells #[u, v] t)).alloc (.cells #[.int .u8 s.k, .int .u8 s.v, .int .u8 s.o, .int .u8 s.a, .int .u8 s.n, .int .u8 s.s] ts)).alloc (.cells #[z0, z1] t)) : PH w W t u v z0 z1 s := by
  subst hW
  have h1 := (Below.refl (w.alloc (.cells #[u, v] t)).heap.size (w.alloc (.cells #[u, v] t))).onAlloc (.cells #[.int .u8 s.k, .int .u8 s.v, .int .u8 s.o, .int .u8 s.a, .int .u8 s.n, .int .u8 s.s] ts)
  have h2 := (Below.refl ((w.alloc (.cells #[u, v] t)).alloc (.cells #[.int .u8 s.k, .int .u8 s.v, .int .u8 s.o, .int .u8 s.a, .int .u8 s.n, .int .u8 s.s] ts)).heap.size ((w.alloc (.cells #[u, v] t)).alloc (.cells #[.int .u8 s.k, .int .u8 s.v, .int .u8 s.o, .int .u8 s.a, .int .u8 s.n, .int .u8 s.s] ts))).onAlloc (.cells #[z0, z1] t)
  exact ⟨((Bx.new w _ rfl u v t).later h1).later h2, (SX.new (w.alloc (.cells #[u, v] t)) (w.heap.size + 1) (by simp) s ts).later h2, Bx.new _ _ (by simp) z0 z1 t, (((Below.refl _ _).onAlloc _).onAlloc _).onAlloc _⟩
theorem PH.far {w W : World} {t : TypeId} {u v z0 z1 : Value} {s : Step36} {T : Nat} (h : PH w W t u v z0 z1 s) (hT : w.heap.size + 1 + 1 < T) (x y : Value) : PH w (fam2 W T x y) t u v z0 z1 s :=
  ⟨h.fb.far (by omega) x y, ⟨(fam2_far (by simp only; omega)).trans h.sx.s0, (fam2_far (by simp only; omega)).trans h.sx.s1, (fam2_far (by simp only; omega)).trans h.sx.s2, (fam2_far (by simp only; omega)).trans h.sx.s3, (fam2_far (by simp only; omega)).trans h.sx.s4, (fam2_far (by simp only; omega)).trans h.sx.s5⟩, h.rb.far (by omega) x y, (h.B.setCell (by simp only; omega) _).setCell (by simp only; omega) _⟩
theorem PH.below {w W : World} {t : TypeId} {u v z0 z1 : Value} {s : Step36} (h : PH w W t u v z0 z1 s) (x y : Value) : Below w.heap.size w (fam2 W (w.heap.size + 1 + 1) x y) := (h.B.setCell (by simp only; omega) _).setCell (by simp only; omega) _
theorem rnames_r (n : Int) (nm : List UInt8) (w : World) (hn : 0 ≤ n ∧ n ≤ 255) (h : nameN n = nm) : Calls Tryz.prog 25 #[.int .u8 n] w fun e w' => e = .returned (nmV nm) ∧ Below w.heap.size w w' := by
  subst h
  exact rnames_is n w hn
theorem FamR.form {w : World} {gv : Value} {F : Fam} (h : FamR w gv F) : ∃ a n c, gv = .agg #[.int .i64 F.N, .slice a n c] := by
  obtain ⟨a, c, ts, h, _⟩ := h
  exact ⟨a, _, c, h⟩
/-- Behind the drawn region of the clone: the new family lies in block T. -/
def CloC (w : World) (fam : World → Value → Fam → Prop) (t : TypeId) (u v z0 z1 : Value) (s : Step36) (G : Fam) (x0 : Int) (p q : Value) (W : World) : Prop :=
  ∃ T x y, p = .pointer (some ⟨T, 0, none⟩) ∧ q = .int .i64 x0 ∧ Bx W T t x y ∧ fam W (.agg #[x, y]) G ∧ PH w W t u v z0 z1 s ∧ T ≠ w.heap.size + 1 + 1
set_option maxHeartbeats 8000000 in
theorem rapply_is (F : Fam) (gv : Value) (s : Step36) (w : World) (hF : F.ok) (h : FamR w gv F) (hs : s.ok) :
    Calls Tryz.prog 35 #[gv, s.val] w (RPost3 w (stepF F s).1 (stepF F s).2.1 (stepF F s).2.2) := by
  obtain ⟨a, n, c, rfl⟩ := h.form
  have HH := Lib.hid (PH.init w _ 45 50 (.int .i64 F.N) (.slice a n c) (.int .i64 0) (.slice none 0 0) s rfl)
  have HFAM := Lib.hid h
  have HF := Lib.hid hF
  obtain ⟨nm, hnm, hnl⟩ : ∃ nm, nameN s.v = nm ∧ nm.length ≤ maxLen := ⟨_, rfl, nameN_max _⟩
  obtain ⟨ot, hot, hol⟩ : ∃ nm, nameN s.o = nm ∧ nm.length ≤ maxLen := ⟨_, rfl, nameN_max _⟩
  have HNM := Lib.hid hnm
  have HOT := Lib.hid hot
  have HS := Lib.hid hs
  have bk := hs.k
  have ba := hs.a
  have bn := hs.n
  have bs := hs.s
  have hst : stepF F s = if s.k % 8 = 0 then ((createF F nm s.n s.a).1, [], (createF F nm s.n s.a).2) else if s.k % 8 = 1 then ((cloneF F nm ot).1, [], (cloneF F nm ot).2) else if s.k % 8 = 2 then deleteF F nm else if s.k % 8 = 3 then unmapF F nm s.a s.n else assignF F nm ⟨s.a, s.n, s.s⟩ := by rw [← hnm, ← hot]; rfl
  rw [hst]
  clear h hF hs hst hnm hot
  by_cases h0 : s.k % 8 = 0
  · rw [if_pos h0]
    have e0 : (s.k % 8 == 0) = true := by simpa using h0
    obtain ⟨G, x0, hcr⟩ : ∃ G x0, createF F nm s.n s.a = (G, x0) := ⟨_, _, rfl⟩
    have HC := Lib.hid hcr
    rw [hcr]
    clear h0 hcr
    go_enter Tryz.func35, Tryz.ntmps35
    go_wp2_with fail
    refine (rnames_r s.v nm _ HS.out.v HNM.out).mono ?_
    rintro e w1 ⟨rfl, hb⟩
    have HH := Lib.hid (HH.out.later hb)
    clear hb
    have b0 := HH.out.fb.c0
    have b1 := HH.out.fb.c1
    have s0 := HH.out.sx.s0
    have s1 := HH.out.sx.s1
    have s2 := HH.out.sx.s2
    have s3 := HH.out.sx.s3
    have s4 := HH.out.sx.s4
    have s5 := HH.out.sx.s5
    have r0 := HH.out.rb.c0
    have r1 := HH.out.rb.c1
    have f0 := HH.out.rb.f0
    have f1 := HH.out.rb.f1
    go_wp2_with fail
    have hq := rcreate_is F _ nm s.n s.a _ HF.out (HFAM.out.keep HH.out.B) hnl
    rw [HC.out] at hq
    refine hq.mono ?_
    rintro e w2 ⟨gv, rfl, hg, hb⟩
    obtain ⟨ga, gn, gc, rfl⟩ := hg.form
    have hk := hb.onAlloc (.cells #[.int .i64 G.N, .slice ga gn gc] 45)
    have HG := Lib.hid (hg.keep ((Below.refl w2.heap.size w2).onAlloc (.cells #[.int .i64 G.N, .slice ga gn gc] 45)))
    have HX := Lib.hid (Bx.new w2 _ rfl (.int .i64 G.N) (.slice ga gn gc) 45)
    have HH := Lib.hid (HH.out.later hk)
    clear hb hg hk hq b0 b1 s0 s1 s2 s3 s4 s5 r0 r1 f0 f1
    have r0 := HH.out.rb.c0
    have r1 := HH.out.rb.c1
    have f0 := HH.out.rb.f0
    have f1 := HH.out.rb.f1
    have t0 := HX.out.c0
    have t1 := HX.out.c1
    go_wp2_with fail
    have j0 := (HH.out.rb.put (.int .i64 G.N) (.slice ga gn gc)).c0
    have j1 := (HH.out.rb.put (.int .i64 G.N) (.slice ga gn gc)).c1
    (try simp only [Exit.inBlock, Exit.then])
    refine bodyPost_ret (v := .tuple #[.agg #[.int .i64 G.N, .slice ga gn gc], .slice none 0 0, .int .i64 x0]) (by first | (rw [results_cell_tmp rfl]; go_simp; done) | (rw [results_cell_tmp2 rfl]; go_simp; done) | (rw [results_cell_one rfl]; go_simp; done)) rfl ?_
    exact ⟨_, _, rfl, HH.out.rb.famR HG.out, OwnE.nil _ _, HH.out.below _ _⟩
  rw [if_neg h0]
  have e0 : (s.k % 8 == 0) = false := by simpa using h0
  by_cases h1 : s.k % 8 = 1
  · rw [if_pos h1]
    have e1 : (s.k % 8 == 1) = true := by simpa using h1
    obtain ⟨G, x0, hcr⟩ : ∃ G x0, cloneF F nm ot = (G, x0) := ⟨_, _, rfl⟩
    have HC := Lib.hid hcr
    rw [hcr]
    clear h0 h1 hcr
    go_enter Tryz.func35, Tryz.ntmps35
    go_wp2_with fail
    refine (rnames_r s.v nm _ HS.out.v HNM.out).mono ?_
    rintro e w1 ⟨rfl, hb⟩
    have HH := Lib.hid (HH.out.later hb)
    clear hb
    have b0 := HH.out.fb.c0
    have b1 := HH.out.fb.c1
    have s0 := HH.out.sx.s0
    have s1 := HH.out.sx.s1
    have s2 := HH.out.sx.s2
    have s3 := HH.out.sx.s3
    have s4 := HH.out.sx.s4
    have s5 := HH.out.sx.s5
    have r0 := HH.out.rb.c0
    have r1 := HH.out.rb.c1
    have f0 := HH.out.rb.f0
    have f1 := HH.out.rb.f1
    go_upto_region 7 with fail
    clear b0 b1 s0 s1 s2 s3 s4 s5 r0 r1 f0 f1
    go_cut [10, 11] from 10 to 45 (fun p v wx => CloC w FamR 45 (.int .i64 F.N) (.slice a n c) (.int .i64 0) (.slice none 0 0) s G x0 p v wx)
    case first =>
      have HV := Lib.hid (HH.out.later (Below.refl _ _).drew)
      have h9d : w1.drew.heap.size = w1.heap.size := rfl
      have HB1 : Hid (Bx (w1.alloc (.cells #[(.int .i64 0), (.slice none 0 0)] 45)).drew w1.heap.size 45 (.int .i64 0) (.slice none 0 0)) := Lib.hid ((Bx.new w1 _ rfl (.int .i64 0) (.slice none 0 0) 45).later (Below.refl _ _).drew)
      have hAL : Below w1.drew.heap.size w1.drew (w1.alloc (.cells #[(.int .i64 0), (.slice none 0 0)] 45)).drew := (Below.refl w1.drew.heap.size w1.drew).onAlloc (.cells #[(.int .i64 0), (.slice none 0 0)] 45)
      have HAV := Lib.hid (HV.out.later hAL)
      have HAL := Lib.hid hAL
      clear hAL
      go_region_held3 (fun w' => w'.cell? ⟨w.heap.size, 0, none⟩ = some (.int .i64 F.N) ∧ w'.cell? ⟨w.heap.size, 1, none⟩ = some (.slice a n c) ∧ w'.cell? ⟨w.heap.size + 1, 2, none⟩ = some (.int .u8 s.o) ∧ Below w1.drew.heap.size w1.drew w')
        (first
          | with_reducible exact ⟨HV.out.fb.c0, HV.out.fb.c1, HV.out.sx.s2, Below.refl _ _⟩
          | with_reducible exact ⟨HAV.out.fb.c0, HAV.out.fb.c1, HAV.out.sx.s2, HAL.out⟩
          | with_reducible exact ⟨HVN.out.fb.c0, HVN.out.fb.c1, HVN.out.sx.s2, hWN⟩
          | with_reducible exact ⟨HVM.out.fb.c0, HVM.out.fb.c1, HVM.out.sx.s2, hWM⟩
          | with_reducible exact ⟨HVK.out.fb.c0, HVK.out.fb.c1, HVK.out.sx.s2, hWK⟩
          | with_reducible exact ⟨HVL.out.fb.c0, HVL.out.fb.c1, HVL.out.sx.s2, hWL⟩
          | with_reducible exact ⟨HVR.out.fb.c0, HVR.out.fb.c1, HVR.out.sx.s2, hWR⟩
          | with_reducible exact ⟨HVQ.out.fb.c0, HVQ.out.fb.c1, HVQ.out.sx.s2, hWQ⟩
          | with_reducible exact ⟨HVP.out.fb.c0, HVP.out.fb.c1, HVP.out.sx.s2, hWP⟩)
        (first
          | (go_at_call 25; have hW := (‹_ ∧ _ ∧ _ ∧ Below w1.drew.heap.size w1.drew _›).2.2.2; refine (rnames_r s.o ot _ HS.out.o HOT.out).mono ?_; rintro e w2 ⟨rfl, hb2⟩; have hWN := hW.on hb2; have HVN := Lib.hid (HV.out.later hWN); have hWM := hWN.onAlloc (.cells #[(.int .i64 0), (.slice none 0 0)] 45); have HVM := Lib.hid (HV.out.later hWM); (try (have HBX := Lib.hid (HB1.out.later hb2))))
          | (go_at_call 58; have hW := (‹_ ∧ _ ∧ _ ∧ Below w1.drew.heap.size w1.drew _›).2.2.2; have hW := (Below.refl w1.heap.size w1).drew.on hW; have hq := rclone_is F (.agg #[.int .i64 F.N, .slice a n c]) nm ot _ HF.out (HFAM.out.keep (HH.out.B.on hW)) hnl hol; rw [HC.out] at hq; refine hq.mono ?_; rintro e w3 ⟨gv, rfl, hg, hb3⟩; obtain ⟨ga, gn, gc, rfl⟩ := hg.form; have hWK := (‹_ ∧ _ ∧ _ ∧ Below w1.drew.heap.size w1.drew _›).2.2.2.on hb3; have HVK := Lib.hid (HV.out.later hWK); have hWL := hWK.onAlloc (.cells #[.int .i64 G.N, .slice ga gn gc] 45); have HVL := Lib.hid (HV.out.later hWL); (try (have HBX := Lib.hid (HBX.out.later hb3))); (try (have HBX := Lib.hid ((Bx.new w2 _ rfl (.int .i64 0) (.slice none 0 0) 45).later hb3))); (try (have t0 := HBX.out.c0; have t1 := HBX.out.c1; have t2 := HBX.out.f0; have t3 := HBX.out.f1)); have hWR := hWK.onAlloc (.cells #[(.int .i64 0), (.slice none 0 0)] 45); have HVR := Lib.hid (HV.out.later hWR); have hWP : Below w1.drew.heap.size w1.drew (fam2 w3 w1.heap.size (.int .i64 G.N) (.slice ga gn gc)) := (hWK.setCell (Nat.le_refl _) _).setCell (Nat.le_refl _) _; have HVP := Lib.hid (HV.out.later hWP); have hWQ : Below w1.drew.heap.size w1.drew (fam2 w3 w2.heap.size (.int .i64 G.N) (.slice ga gn gc)) := (hWK.setCell hWN.size _).setCell hWN.size _; have HVQ := Lib.hid (HV.out.later hWQ)))
      · have h13 := (Below.refl w1.heap.size w1).drew.on hWK
        have hk := h13.onAlloc (.cells #[.int .i64 G.N, .slice ga gn gc] 45)
        have HQ : Hid (CloC w FamR 45 (.int .i64 F.N) (.slice a n c) (.int .i64 0) (.slice none 0 0) s G x0 (.pointer (some ⟨w3.heap.size, 0, none⟩)) (.int .i64 x0) (w3.alloc (.cells #[.int .i64 G.N, .slice ga gn gc] 45))) :=
          Lib.hid ⟨_, _, _, rfl, rfl, Bx.new w3 _ rfl (.int .i64 G.N) (.slice ga gn gc) 45, hg.keep ((Below.refl _ _).onAlloc _), HH.out.later hk, by have := HH.out.rb.lt; have := h13.size; omega⟩
        clear h13 hk hg hb3 hb2 hq hWN hWM hWK hWL hWP hWQ hWR hW
        go_wp2_with fail
        go_meet
        exact HQ.out
      · have h13 := (Below.refl w1.heap.size w1).drew.on hWK
        have hlt := HH.out.rb.lt
        have hn2 : w1.heap.size ≤ w2.heap.size := hWN.size
        have HQ : Hid (CloC w FamR 45 (.int .i64 F.N) (.slice a n c) (.int .i64 0) (.slice none 0 0) s G x0 (.pointer (some ⟨w2.heap.size, 0, none⟩)) (.int .i64 x0) (fam2 w3 w2.heap.size (.int .i64 G.N) (.slice ga gn gc))) :=
          Lib.hid ⟨_, _, _, rfl, rfl, HBX.out.put _ _, HBX.out.famR hg, (HH.out.later h13).far (by omega) _ _, by omega⟩
        clear h13 hg hb3 hb2 hq hWN hWM hWK hWL hWP hWQ hWR hW t0 t1 t2 t3
        go_wp2_with fail
        go_meet
        exact HQ.out
      · have h13 := (Below.refl w1.heap.size w1).drew.on hWK
        have hlt := HH.out.rb.lt
        have HQ : Hid (CloC w FamR 45 (.int .i64 F.N) (.slice a n c) (.int .i64 0) (.slice none 0 0) s G x0 (.pointer (some ⟨w1.heap.size, 0, none⟩)) (.int .i64 x0) (fam2 w3 w1.heap.size (.int .i64 G.N) (.slice ga gn gc))) :=
          Lib.hid ⟨_, _, _, rfl, rfl, HBX.out.put _ _, HBX.out.famR hg, (HH.out.later h13).far (by omega) _ _, by omega⟩
        clear h13 hg hb3 hb2 hq hWN hWM hWK hWL hWP hWQ hWR hW t0 t1 t2 t3
        go_wp2_with fail
        go_meet
        exact HQ.out
    case rest =>
      obtain ⟨T, x, y, rfl, rfl, hbx, hfm, hph, hne⟩ := hcut
      obtain ⟨W2, rfl⟩ : ∃ W2 : World, W2 = wc := ⟨_, rfl⟩
      have HM := Lib.hid hph
      have HG := Lib.hid hfm
      have t0 := hbx.c0
      have t1 := hbx.c1
      have r0 := hph.rb.c0
      have r1 := hph.rb.c1
      have f0 := hph.rb.f0
      have f1 := hph.rb.f1
      obtain ⟨ga, gn, gc, he⟩ := hfm.form
      obtain ⟨rfl, rfl⟩ : x = .int .i64 G.N ∧ y = .slice ga gn gc := by
        injection he with he
        have h1 := congrArg Array.toList he
        simp at h1
        exact h1
      clear hbx hfm hph hne
      go_wp2_with fail
      have j0 := (HM.out.rb.put (.int .i64 G.N) (.slice ga gn gc)).c0
      have j1 := (HM.out.rb.put (.int .i64 G.N) (.slice ga gn gc)).c1
      (try simp only [Exit.inBlock, Exit.then])
      refine bodyPost_ret (v := .tuple #[.agg #[.int .i64 G.N, .slice ga gn gc], .slice none 0 0, .int .i64 x0]) (by first | (rw [results_cell_tmp rfl]; go_simp; done) | (rw [results_cell_tmp2 rfl]; go_simp; done) | (rw [results_cell_one rfl]; go_simp; done)) rfl ?_
      exact ⟨_, _, rfl, HM.out.rb.famR HG.out, OwnE.nil _ _, HM.out.below _ _⟩
  rw [if_neg h1]
  have e1 : (s.k % 8 == 1) = false := by simpa using h1
  by_cases h2 : s.k % 8 = 2
  · rw [if_pos h2]
    have e2 : (s.k % 8 == 2) = true := by simpa using h2
    clear h0 h1 h2
    obtain ⟨G, L, x0, hcr⟩ : ∃ G L x0, deleteF F nm = (G, L, x0) := ⟨_, _, _, rfl⟩
    have HC := Lib.hid hcr
    rw [hcr]
    clear hcr
    go_enter Tryz.func35, Tryz.ntmps35
    go_wp2_with fail
    refine (rnames_r s.v nm _ HS.out.v HNM.out).mono ?_
    rintro e w1 ⟨rfl, hb⟩
    have HH := Lib.hid (HH.out.later hb)
    clear hb
    have b0 := HH.out.fb.c0
    have b1 := HH.out.fb.c1
    have s0 := HH.out.sx.s0
    have s1 := HH.out.sx.s1
    have s2 := HH.out.sx.s2
    have s3 := HH.out.sx.s3
    have s4 := HH.out.sx.s4
    have s5 := HH.out.sx.s5
    have r0 := HH.out.rb.c0
    have r1 := HH.out.rb.c1
    have f0 := HH.out.rb.f0
    have f1 := HH.out.rb.f1
    go_wp2_with fail
    have hq := rdelete_is F _ nm _ HF.out (HFAM.out.keep HH.out.B) hnl
    rw [HC.out] at hq
    refine hq.mono ?_
    rintro e w2 ⟨gv, sv, rfl, hg, hso, hb⟩
    obtain ⟨ga, gn, gc, rfl⟩ := hg.form
    have HG := Lib.hid hg
    have HO := Lib.hid (fam2_own (u := .int .i64 G.N) (v := .slice ga gn gc) hso HH.out.rb.lt)
    have HSZ := Lib.hid HH.out.B.size
    have HH := Lib.hid (HH.out.later hb)
    clear hb hg hso hq b0 b1 s0 s1 s2 s3 s4 s5 r0 r1 f0 f1
    have r0 := HH.out.rb.c0
    have r1 := HH.out.rb.c1
    have f0 := HH.out.rb.f0
    have f1 := HH.out.rb.f1
    go_wp2_with fail
    have j0 := (HH.out.rb.put (.int .i64 G.N) (.slice ga gn gc)).c0
    have j1 := (HH.out.rb.put (.int .i64 G.N) (.slice ga gn gc)).c1
    (try simp only [Exit.inBlock, Exit.then])
    refine bodyPost_ret (v := .tuple #[.agg #[.int .i64 G.N, .slice ga gn gc], sv, .int .i64 x0]) (by first | (rw [results_cell_tmp rfl]; go_simp; done) | (rw [results_cell_tmp2 rfl]; go_simp; done) | (rw [results_cell_one rfl]; go_simp; done)) rfl ?_
    exact ⟨_, _, rfl, HH.out.rb.famR HG.out, HO.out.mono HSZ.out, HH.out.below _ _⟩
  rw [if_neg h2]
  have e2 : (s.k % 8 == 2) = false := by simpa using h2
  by_cases h3 : s.k % 8 = 3
  · rw [if_pos h3]
    have e3 : (s.k % 8 == 3) = true := by simpa using h3
    clear h0 h1 h2 h3
    obtain ⟨G, L, x0, hcr⟩ : ∃ G L x0, unmapF F nm s.a s.n = (G, L, x0) := ⟨_, _, _, rfl⟩
    have HC := Lib.hid hcr
    rw [hcr]
    clear hcr
    go_enter Tryz.func35, Tryz.ntmps35
    go_wp2_with fail
    refine (rnames_r s.v nm _ HS.out.v HNM.out).mono ?_
    rintro e w1 ⟨rfl, hb⟩
    have HH := Lib.hid (HH.out.later hb)
    clear hb
    have b0 := HH.out.fb.c0
    have b1 := HH.out.fb.c1
    have s0 := HH.out.sx.s0
    have s1 := HH.out.sx.s1
    have s2 := HH.out.sx.s2
    have s3 := HH.out.sx.s3
    have s4 := HH.out.sx.s4
    have s5 := HH.out.sx.s5
    have r0 := HH.out.rb.c0
    have r1 := HH.out.rb.c1
    have f0 := HH.out.rb.f0
    have f1 := HH.out.rb.f1
    go_wp2_with fail
    have hq := runmap_is F _ nm s.a s.n _ HF.out (HFAM.out.keep HH.out.B) hnl
    rw [HC.out] at hq
    refine hq.mono ?_
    rintro e w2 ⟨gv, sv, rfl, hg, hso, hb⟩
    obtain ⟨ga, gn, gc, rfl⟩ := hg.form
    have HG := Lib.hid hg
    have HO := Lib.hid (fam2_own (u := .int .i64 G.N) (v := .slice ga gn gc) hso HH.out.rb.lt)
    have HSZ := Lib.hid HH.out.B.size
    have HH := Lib.hid (HH.out.later hb)
    clear hb hg hso hq b0 b1 s0 s1 s2 s3 s4 s5 r0 r1 f0 f1
    have r0 := HH.out.rb.c0
    have r1 := HH.out.rb.c1
    have f0 := HH.out.rb.f0
    have f1 := HH.out.rb.f1
    go_wp2_with fail
    have j0 := (HH.out.rb.put (.int .i64 G.N) (.slice ga gn gc)).c0
    have j1 := (HH.out.rb.put (.int .i64 G.N) (.slice ga gn gc)).c1
    (try simp only [Exit.inBlock, Exit.then])
    refine bodyPost_ret (v := .tuple #[.agg #[.int .i64 G.N, .slice ga gn gc], sv, .int .i64 x0]) (by first | (rw [results_cell_tmp rfl]; go_simp; done) | (rw [results_cell_tmp2 rfl]; go_simp; done) | (rw [results_cell_one rfl]; go_simp; done)) rfl ?_
    exact ⟨_, _, rfl, HH.out.rb.famR HG.out, HO.out.mono HSZ.out, HH.out.below _ _⟩
  · rw [if_neg h3]
    have e3 : (s.k % 8 == 3) = false := by simpa using h3
    clear h0 h1 h2 h3
    obtain ⟨G, L, x0, hcr⟩ : ∃ G L x0, assignF F nm ⟨s.a, s.n, s.s⟩ = (G, L, x0) := ⟨_, _, _, rfl⟩
    have HC := Lib.hid hcr
    rw [hcr]
    clear hcr
    go_enter Tryz.func35, Tryz.ntmps35
    go_wp2_with fail
    refine (rnames_r s.v nm _ HS.out.v HNM.out).mono ?_
    rintro e w1 ⟨rfl, hb⟩
    have HH := Lib.hid (HH.out.later hb)
    clear hb
    have b0 := HH.out.fb.c0
    have b1 := HH.out.fb.c1
    have s0 := HH.out.sx.s0
    have s1 := HH.out.sx.s1
    have s2 := HH.out.sx.s2
    have s3 := HH.out.sx.s3
    have s4 := HH.out.sx.s4
    have s5 := HH.out.sx.s5
    have r0 := HH.out.rb.c0
    have r1 := HH.out.rb.c1
    have f0 := HH.out.rb.f0
    have f1 := HH.out.rb.f1
    go_wp2_with fail
    have hq := rassign_is F _ nm ⟨s.a, s.n, s.s⟩ _ HF.out (HFAM.out.keep HH.out.B) hnl (by unfold E.wf; simp only; omega)
    rw [HC.out] at hq
    refine hq.mono ?_
    rintro e w2 ⟨gv, sv, rfl, hg, hso, hb⟩
    obtain ⟨ga, gn, gc, rfl⟩ := hg.form
    have HG := Lib.hid hg
    have HO := Lib.hid (fam2_own (u := .int .i64 G.N) (v := .slice ga gn gc) hso HH.out.rb.lt)
    have HSZ := Lib.hid HH.out.B.size
    have HH := Lib.hid (HH.out.later hb)
    clear hb hg hso hq b0 b1 s0 s1 s2 s3 s4 s5 r0 r1 f0 f1
    have r0 := HH.out.rb.c0
    have r1 := HH.out.rb.c1
    have f0 := HH.out.rb.f0
    have f1 := HH.out.rb.f1
    go_wp2_with fail
    have j0 := (HH.out.rb.put (.int .i64 G.N) (.slice ga gn gc)).c0
    have j1 := (HH.out.rb.put (.int .i64 G.N) (.slice ga gn gc)).c1
    (try simp only [Exit.inBlock, Exit.then])
    refine bodyPost_ret (v := .tuple #[.agg #[.int .i64 G.N, .slice ga gn gc], sv, .int .i64 x0]) (by first | (rw [results_cell_tmp rfl]; go_simp; done) | (rw [results_cell_tmp2 rfl]; go_simp; done) | (rw [results_cell_one rfl]; go_simp; done)) rfl ?_
    exact ⟨_, _, rfl, HH.out.rb.famR HG.out, HO.out.mono HSZ.out, HH.out.below _ _⟩
end Go.Proofs.YtpakjddfnhnndaaGreat
