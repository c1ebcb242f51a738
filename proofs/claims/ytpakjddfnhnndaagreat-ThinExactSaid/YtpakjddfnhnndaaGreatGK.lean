/-
  tegulalaw37: apply.
  tegularef36.Run, tegulalaw37: build.
  tegulalaw37: write.
  tegulalaw37: permitted.
  Conditions: as each theorem says.
-/
import Derived.Test.YtpakjddfnhnndaaGreatGI
import Derived.Test.YtpakjddfnhnndaaGreatGJ
import Derived.Test.YtpakjddfnhnndaaGreatFcN
import Derived.Test.YtpakjddfnhnndaaGreatFcT
namespace Go.Proofs.YtpakjddfnhnndaaGreat
set_option linter.unusedSimpArgs false
set_option linter.unusedVariables false
set_option maxRecDepth 100000
open Go.RowKit Go.Maps

def FamOut (w : World) (G : Fam) (e : Ending) (w' : World) : Prop := ∃ gv, e = .returned gv ∧ FamV w' gv G ∧ Below w.heap.size w w'
set_option maxHeartbeats 8000000 in
theorem apply37_is (F : Fam) (fv : Value) (s : Step36) (w : World) (hF : F.ok) (h9 : ∀ v ∈ F.vs, v.l.length ≤ 9000) (h : FamV w fv F) (hs : s.ok) :
    Calls Tryz.prog 90 #[fv, s.val] w (FamOut w (stepE F s)) := by
  obtain ⟨a, c, mb, rfl⟩ := h.form
  have HH := Lib.hid (PH.init w _ 28 50 (.slice a F.N c) (.map mb) (.slice none 0 0) (.map none) s rfl)
  have HFAM := Lib.hid h
  have HF := Lib.hid hF
  have H9 := Lib.hid h9
  clear h9
  obtain ⟨nm, hnm, hnl⟩ : ∃ nm, nameN s.v = nm ∧ nm.length ≤ maxLen := ⟨_, rfl, nameN_max _⟩
  obtain ⟨ot, hot, hol⟩ : ∃ nm, nameN s.o = nm ∧ nm.length ≤ maxLen := ⟨_, rfl, nameN_max _⟩
  have HNM := Lib.hid hnm
  have HOT := Lib.hid hot
  have HS := Lib.hid hs
  have bk := hs.k
  have ba := hs.a
  have bn := hs.n
  have bs := hs.s
  have hst : stepF F s = if s.k % 8 = 0 then ((createF F nm s.n s.a).1, [], (createF F nm s.n s.a).2) else if s.k % 8 = 1 then ((cloneF F nm ot).1, [], (cloneF F nm ot).2) else if s.k % 8 = 2 then deleteF F nm else if s.k % 8 = 3 then unmapF F nm s.a s.n else assignF F nm ⟨s.a, s.n, s.s⟩ := by rw [← hnm, ← hot]; rfl
  unfold stepE
  rw [hst]
  clear h hF hs hst hnm hot
  by_cases h0 : s.k % 8 = 0
  · rw [if_pos h0]
    have e0 : (s.k % 8 == 0) = true := by simpa using h0
    clear h0
    obtain ⟨G, x0, hcr⟩ : ∃ G x0, createF F nm s.n s.a = (G, x0) := ⟨_, _, rfl⟩
    have HC := Lib.hid hcr
    rw [hcr]
    simp only
    obtain ⟨R9, hR9⟩ : ∃ R, (if x0 = 0 then G else F) = R := ⟨_, rfl⟩
    rw [hR9]
    have HR9 := Lib.hid hR9
    clear hcr hR9
    go_enter Tryz.func90, Tryz.ntmps90
    go_wp2_with fail
    refine (rnames_r s.v nm _ HS.out.v HNM.out).mono ?_
    rintro e w1 ⟨rfl, hb⟩
    have hk1 := hb.onAlloc (.cells #[.slice none 0 0, .map none] 28)
    have HT := Lib.hid (Bx.new w1 _ rfl (.slice none 0 0) (.map none) 28)
    have hTl : w.heap.size + 1 + 1 < w1.heap.size := (HH.out.later hb).rb.lt
    have HH := Lib.hid (HH.out.later hk1)
    clear hb hk1
    have b0 := HH.out.fb.c0
    have b1 := HH.out.fb.c1
    have s0 := HH.out.sx.s0
    have s1 := HH.out.sx.s1
    have s2 := HH.out.sx.s2
    have s3 := HH.out.sx.s3
    have s4 := HH.out.sx.s4
    have s5 := HH.out.sx.s5
    have r0 := HH.out.rb.c0
    have r1 := HH.out.rb.c1
    have f0 := HH.out.rb.f0
    have f1 := HH.out.rb.f1
    have t0 := HT.out.c0
    have t1 := HT.out.c1
    have t2 := HT.out.f0
    have t3 := HT.out.f1
    go_wp2_with fail
    refine (create_r F G x0 _ nm s.n s.a _ HF.out (HFAM.out.keep HH.out.B) hnl HC.out).mono ?_
    rintro e w2 ⟨gv, rfl, hg, hb⟩
    obtain ⟨ga, gc, gm, rfl⟩ := hg.form
    have HG := Lib.hid hg
    have HH := Lib.hid (HH.out.later hb)
    have HT := Lib.hid (HT.out.later hb)
    clear hb hg b0 b1 s0 s1 s2 s3 s4 s5 r0 r1 f0 f1 t0 t1 t2 t3
    have HTL := Lib.hid hTl
    generalize w1.heap.size = T at *
    by_cases hx0 : x0 = 0
    · subst hx0
      obtain rfl : G = R9 := by have := HR9.out; rwa [if_pos rfl] at this
      have HP := Lib.hid (HH.out.far (T := T) hTl (.slice ga G.N gc) (.map gm))
      have HX := Lib.hid (HT.out.put (.slice ga G.N gc) (.map gm))
      have HG2 := Lib.hid (HT.out.famV (x := .slice ga G.N gc) (y := .map gm) famTy HG.out)
      have q0 := HX.out.c0
      have q1 := HX.out.c1
      have r0 := HP.out.rb.c0
      have r1 := HP.out.rb.c1
      have f0 := HP.out.rb.f0
      have f1 := HP.out.rb.f1
      have t0 := HT.out.c0
      have t1 := HT.out.c1
      have t2 := HT.out.f0
      have t3 := HT.out.f1
      clear hTl
      go_wp2_with fail
      have j0 := (HP.out.rb.put (.slice ga G.N gc) (.map gm)).c0
      have j1 := (HP.out.rb.put (.slice ga G.N gc) (.map gm)).c1
      (try simp only [Exit.inBlock, Exit.then])
      refine bodyPost_ret (v := .agg #[.slice ga G.N gc, .map gm]) (by first | (rw [results_cell_tmp rfl]; go_simp; done) | (rw [results_cell_tmp2 rfl]; go_simp; done) | (rw [results_cell_one rfl]; go_simp; done)) rfl ?_
      exact ⟨_, rfl, HP.out.rb.famV famTy HG2.out, HP.out.below _ _⟩
    · have d0 : (x0 == 0) = false := by simpa using hx0
      obtain rfl : F = R9 := by have := HR9.out; rwa [if_neg hx0] at this
      have HP := Lib.hid (HH.out.far (T := T) hTl (.slice ga G.N gc) (.map gm))
      have HF2 := Lib.hid (HT.out.famV (x := .slice ga G.N gc) (y := .map gm) famTy (HFAM.out.keep HH.out.B))
      have b0 := HP.out.fb.c0
      have b1 := HP.out.fb.c1
      have r0 := HP.out.rb.c0
      have r1 := HP.out.rb.c1
      have f0 := HP.out.rb.f0
      have f1 := HP.out.rb.f1
      have t0 := HT.out.c0
      have t1 := HT.out.c1
      have t2 := HT.out.f0
      have t3 := HT.out.f1
      clear hx0 hTl
      go_wp2_with fail
      have j0 := (HP.out.rb.put (.slice a F.N c) (.map mb)).c0
      have j1 := (HP.out.rb.put (.slice a F.N c) (.map mb)).c1
      (try simp only [Exit.inBlock, Exit.then])
      refine bodyPost_ret (v := .agg #[.slice a F.N c, .map mb]) (by first | (rw [results_cell_tmp rfl]; go_simp; done) | (rw [results_cell_tmp2 rfl]; go_simp; done) | (rw [results_cell_one rfl]; go_simp; done)) rfl ?_
      exact ⟨_, rfl, HP.out.rb.famV famTy HF2.out, HP.out.below _ _⟩
  rw [if_neg h0]
  have e0 : (s.k % 8 == 0) = false := by simpa using h0
  by_cases h1 : s.k % 8 = 1
  · rw [if_pos h1]
    have e1 : (s.k % 8 == 1) = true := by simpa using h1
    clear h0 h1
    obtain ⟨G, x0, hcr⟩ : ∃ G x0, cloneF F nm ot = (G, x0) := ⟨_, _, rfl⟩
    have HC := Lib.hid hcr
    rw [hcr]
    simp only
    obtain ⟨R9, hR9⟩ : ∃ R, (if x0 = 0 then G else F) = R := ⟨_, rfl⟩
    rw [hR9]
    have HR9 := Lib.hid hR9
    clear hcr hR9
    go_enter Tryz.func90, Tryz.ntmps90
    go_wp2_with fail
    refine (rnames_r s.v nm _ HS.out.v HNM.out).mono ?_
    rintro e w1 ⟨rfl, hb⟩
    have hk1 := hb.onAlloc (.cells #[.slice none 0 0, .map none] 28)
    have HT := Lib.hid (Bx.new w1 _ rfl (.slice none 0 0) (.map none) 28)
    have hTl : w.heap.size + 1 + 1 < w1.heap.size := (HH.out.later hb).rb.lt
    have HH := Lib.hid (HH.out.later hk1)
    clear hb hk1
    have b0 := HH.out.fb.c0
    have b1 := HH.out.fb.c1
    have s0 := HH.out.sx.s0
    have s1 := HH.out.sx.s1
    have s2 := HH.out.sx.s2
    have s3 := HH.out.sx.s3
    have s4 := HH.out.sx.s4
    have s5 := HH.out.sx.s5
    have r0 := HH.out.rb.c0
    have r1 := HH.out.rb.c1
    have f0 := HH.out.rb.f0
    have f1 := HH.out.rb.f1
    have t0 := HT.out.c0
    have t1 := HT.out.c1
    have t2 := HT.out.f0
    have t3 := HT.out.f1
    go_upto_region 9 with fail
    clear b0 b1 s0 s1 s2 s3 s4 s5 r0 r1 f0 f1 t0 t1 t2 t3
    generalize w1.alloc (.cells #[.slice none 0 0, .map none] 28) = W1 at *
    have HTL9 := Lib.hid hTl
    have hTW : w1.heap.size < W1.heap.size := HT.out.lt
    generalize w1.heap.size = T at *
    have h1d : W1.drew.heap.size = W1.heap.size := rfl
    have HV := Lib.hid (HH.out.later (Below.refl _ _).drew)
    have HTV := Lib.hid (HT.out.later (Below.refl _ _).drew)
    go_region_held3 (fun w' => w'.cell? ⟨w.heap.size, 0, none⟩ = some (.slice a F.N c) ∧ w'.cell? ⟨w.heap.size, 1, none⟩ = some (.map mb) ∧ w'.cell? ⟨w.heap.size + 1, 2, none⟩ = some (.int .u8 s.o) ∧ Below w.heap.size w w')
      (first
        | with_reducible exact ⟨HV.out.fb.c0, HV.out.fb.c1, HV.out.sx.s2, HV.out.B⟩
        | with_reducible exact ⟨HVN.out.fb.c0, HVN.out.fb.c1, HVN.out.sx.s2, HVN.out.B⟩
        | with_reducible exact ⟨HVK.out.fb.c0, HVK.out.fb.c1, HVK.out.sx.s2, HVK.out.B⟩
        | with_reducible exact ⟨HVP.out.fb.c0, HVP.out.fb.c1, HVP.out.sx.s2, HVP.out.B⟩)
      (first
        | (go_at_call 25; refine (rnames_r s.o ot _ HS.out.o HOT.out).mono ?_; rintro e w2 ⟨rfl, hb2⟩; have HVN := Lib.hid (HV.out.later hb2); have HTN := Lib.hid (HTV.out.later hb2))
        | (go_at_call 21; refine (clone_r F G x0 (.agg #[.slice a F.N c, .map mb]) nm ot _ HF.out H9.out (HFAM.out.keep HVN.out.B) hnl hol HC.out).mono ?_; rintro e w3 ⟨gv, rfl, hg, hb3⟩; obtain ⟨ga, gc, gm, rfl⟩ := hg.form; have HVK := Lib.hid (HVN.out.later hb3); have HTK := Lib.hid (HTN.out.later hb3); have t0 := HTK.out.c0; have t1 := HTK.out.c1; have t2 := HTK.out.f0; have t3 := HTK.out.f1; have HVP := Lib.hid (HVK.out.far (T := T) HTL9.out (.slice ga G.N gc) (.map gm))))
    have HG := Lib.hid hg
    have HH := Lib.hid HVK.out
    have HT := Lib.hid HTK.out
    clear hb2 hb3 hg t0 t1 t2 t3
    by_cases hx0 : x0 = 0
    · subst hx0
      obtain rfl : G = R9 := by have := HR9.out; rwa [if_pos rfl] at this
      have HP := Lib.hid (HH.out.far (T := T) hTl (.slice ga G.N gc) (.map gm))
      have HX := Lib.hid (HT.out.put (.slice ga G.N gc) (.map gm))
      have HG2 := Lib.hid (HT.out.famV (x := .slice ga G.N gc) (y := .map gm) famTy HG.out)
      have q0 := HX.out.c0
      have q1 := HX.out.c1
      have r0 := HP.out.rb.c0
      have r1 := HP.out.rb.c1
      have f0 := HP.out.rb.f0
      have f1 := HP.out.rb.f1
      have t0 := HT.out.c0
      have t1 := HT.out.c1
      have t2 := HT.out.f0
      have t3 := HT.out.f1
      clear hTl
      go_wp2_with fail
      have j0 := (HP.out.rb.put (.slice ga G.N gc) (.map gm)).c0
      have j1 := (HP.out.rb.put (.slice ga G.N gc) (.map gm)).c1
      (try simp only [Exit.inBlock, Exit.then])
      refine bodyPost_ret (v := .agg #[.slice ga G.N gc, .map gm]) (by first | (rw [results_cell_tmp rfl]; go_simp; done) | (rw [results_cell_tmp2 rfl]; go_simp; done) | (rw [results_cell_one rfl]; go_simp; done)) rfl ?_
      exact ⟨_, rfl, HP.out.rb.famV famTy HG2.out, HP.out.below _ _⟩
    · have d0 : (x0 == 0) = false := by simpa using hx0
      obtain rfl : F = R9 := by have := HR9.out; rwa [if_neg hx0] at this
      have HP := Lib.hid (HH.out.far (T := T) hTl (.slice ga G.N gc) (.map gm))
      have HF2 := Lib.hid (HT.out.famV (x := .slice ga G.N gc) (y := .map gm) famTy (HFAM.out.keep HH.out.B))
      have b0 := HP.out.fb.c0
      have b1 := HP.out.fb.c1
      have r0 := HP.out.rb.c0
      have r1 := HP.out.rb.c1
      have f0 := HP.out.rb.f0
      have f1 := HP.out.rb.f1
      have t0 := HT.out.c0
      have t1 := HT.out.c1
      have t2 := HT.out.f0
      have t3 := HT.out.f1
      clear hx0 hTl
      go_wp2_with fail
      have j0 := (HP.out.rb.put (.slice a F.N c) (.map mb)).c0
      have j1 := (HP.out.rb.put (.slice a F.N c) (.map mb)).c1
      (try simp only [Exit.inBlock, Exit.then])
      refine bodyPost_ret (v := .agg #[.slice a F.N c, .map mb]) (by first | (rw [results_cell_tmp rfl]; go_simp; done) | (rw [results_cell_tmp2 rfl]; go_simp; done) | (rw [results_cell_one rfl]; go_simp; done)) rfl ?_
      exact ⟨_, rfl, HP.out.rb.famV famTy HF2.out, HP.out.below _ _⟩
  rw [if_neg h1]
  have e1 : (s.k % 8 == 1) = false := by simpa using h1
  by_cases h2 : s.k % 8 = 2
  · rw [if_pos h2]
    have e2 : (s.k % 8 == 2) = true := by simpa using h2
    clear h0 h1 h2
    obtain ⟨G, L, x0, hcr⟩ : ∃ G L x0, deleteF F nm = (G, L, x0) := ⟨_, _, _, rfl⟩
    have HC := Lib.hid hcr
    rw [hcr]
    simp only
    obtain ⟨R9, hR9⟩ : ∃ R, (if x0 = 0 then G else F) = R := ⟨_, rfl⟩
    rw [hR9]
    have HR9 := Lib.hid hR9
    clear hcr hR9
    go_enter Tryz.func90, Tryz.ntmps90
    go_wp2_with fail
    refine (rnames_r s.v nm _ HS.out.v HNM.out).mono ?_
    rintro e w1 ⟨rfl, hb⟩
    have hk1 := hb.onAlloc (.cells #[.slice none 0 0, .map none] 28)
    have HT := Lib.hid (Bx.new w1 _ rfl (.slice none 0 0) (.map none) 28)
    have hTl : w.heap.size + 1 + 1 < w1.heap.size := (HH.out.later hb).rb.lt
    have HH := Lib.hid (HH.out.later hk1)
    clear hb hk1
    have b0 := HH.out.fb.c0
    have b1 := HH.out.fb.c1
    have s0 := HH.out.sx.s0
    have s1 := HH.out.sx.s1
    have s2 := HH.out.sx.s2
    have s3 := HH.out.sx.s3
    have s4 := HH.out.sx.s4
    have s5 := HH.out.sx.s5
    have r0 := HH.out.rb.c0
    have r1 := HH.out.rb.c1
    have f0 := HH.out.rb.f0
    have f1 := HH.out.rb.f1
    have t0 := HT.out.c0
    have t1 := HT.out.c1
    have t2 := HT.out.f0
    have t3 := HT.out.f1
    go_wp2_with fail
    refine (delete_r F G L x0 _ nm _ HF.out H9.out (HFAM.out.keep HH.out.B) hnl HC.out).mono ?_
    rintro e w2 ⟨gv, sv, rfl, hg, _, hb⟩
    obtain ⟨ga, gc, gm, rfl⟩ := hg.form
    have HG := Lib.hid hg
    have HH := Lib.hid (HH.out.later hb)
    have HT := Lib.hid (HT.out.later hb)
    clear hb hg b0 b1 s0 s1 s2 s3 s4 s5 r0 r1 f0 f1 t0 t1 t2 t3
    have HTL := Lib.hid hTl
    generalize w1.heap.size = T at *
    by_cases hx0 : x0 = 0
    · subst hx0
      obtain rfl : G = R9 := by have := HR9.out; rwa [if_pos rfl] at this
      have HP := Lib.hid (HH.out.far (T := T) hTl (.slice ga G.N gc) (.map gm))
      have HX := Lib.hid (HT.out.put (.slice ga G.N gc) (.map gm))
      have HG2 := Lib.hid (HT.out.famV (x := .slice ga G.N gc) (y := .map gm) famTy HG.out)
      have q0 := HX.out.c0
      have q1 := HX.out.c1
      have r0 := HP.out.rb.c0
      have r1 := HP.out.rb.c1
      have f0 := HP.out.rb.f0
      have f1 := HP.out.rb.f1
      have t0 := HT.out.c0
      have t1 := HT.out.c1
      have t2 := HT.out.f0
      have t3 := HT.out.f1
      clear hTl
      go_wp2_with fail
      have j0 := (HP.out.rb.put (.slice ga G.N gc) (.map gm)).c0
      have j1 := (HP.out.rb.put (.slice ga G.N gc) (.map gm)).c1
      (try simp only [Exit.inBlock, Exit.then])
      refine bodyPost_ret (v := .agg #[.slice ga G.N gc, .map gm]) (by first | (rw [results_cell_tmp rfl]; go_simp; done) | (rw [results_cell_tmp2 rfl]; go_simp; done) | (rw [results_cell_one rfl]; go_simp; done)) rfl ?_
      exact ⟨_, rfl, HP.out.rb.famV famTy HG2.out, HP.out.below _ _⟩
    · have d0 : (x0 == 0) = false := by simpa using hx0
      obtain rfl : F = R9 := by have := HR9.out; rwa [if_neg hx0] at this
      have HP := Lib.hid (HH.out.far (T := T) hTl (.slice ga G.N gc) (.map gm))
      have HF2 := Lib.hid (HT.out.famV (x := .slice ga G.N gc) (y := .map gm) famTy (HFAM.out.keep HH.out.B))
      have b0 := HP.out.fb.c0
      have b1 := HP.out.fb.c1
      have r0 := HP.out.rb.c0
      have r1 := HP.out.rb.c1
      have f0 := HP.out.rb.f0
      have f1 := HP.out.rb.f1
      have t0 := HT.out.c0
      have t1 := HT.out.c1
      have t2 := HT.out.f0
      have t3 := HT.out.f1
      clear hx0 hTl
      go_wp2_with fail
      have j0 := (HP.out.rb.put (.slice a F.N c) (.map mb)).c0
      have j1 := (HP.out.rb.put (.slice a F.N c) (.map mb)).c1
      (try simp only [Exit.inBlock, Exit.then])
      refine bodyPost_ret (v := .agg #[.slice a F.N c, .map mb]) (by first | (rw [results_cell_tmp rfl]; go_simp; done) | (rw [results_cell_tmp2 rfl]; go_simp; done) | (rw [results_cell_one rfl]; go_simp; done)) rfl ?_
      exact ⟨_, rfl, HP.out.rb.famV famTy HF2.out, HP.out.below _ _⟩
  rw [if_neg h2]
  have e2 : (s.k % 8 == 2) = false := by simpa using h2
  by_cases h3 : s.k % 8 = 3
  · rw [if_pos h3]
    have e3 : (s.k % 8 == 3) = true := by simpa using h3
    clear h0 h1 h2 h3
    obtain ⟨G, L, x0, hcr⟩ : ∃ G L x0, unmapF F nm s.a s.n = (G, L, x0) := ⟨_, _, _, rfl⟩
    have HC := Lib.hid hcr
    rw [hcr]
    simp only
    obtain ⟨R9, hR9⟩ : ∃ R, (if x0 = 0 then G else F) = R := ⟨_, rfl⟩
    rw [hR9]
    have HR9 := Lib.hid hR9
    clear hcr hR9
    go_enter Tryz.func90, Tryz.ntmps90
    go_wp2_with fail
    refine (rnames_r s.v nm _ HS.out.v HNM.out).mono ?_
    rintro e w1 ⟨rfl, hb⟩
    have hk1 := hb.onAlloc (.cells #[.slice none 0 0, .map none] 28)
    have HT := Lib.hid (Bx.new w1 _ rfl (.slice none 0 0) (.map none) 28)
    have hTl : w.heap.size + 1 + 1 < w1.heap.size := (HH.out.later hb).rb.lt
    have HH := Lib.hid (HH.out.later hk1)
    clear hb hk1
    have b0 := HH.out.fb.c0
    have b1 := HH.out.fb.c1
    have s0 := HH.out.sx.s0
    have s1 := HH.out.sx.s1
    have s2 := HH.out.sx.s2
    have s3 := HH.out.sx.s3
    have s4 := HH.out.sx.s4
    have s5 := HH.out.sx.s5
    have r0 := HH.out.rb.c0
    have r1 := HH.out.rb.c1
    have f0 := HH.out.rb.f0
    have f1 := HH.out.rb.f1
    have t0 := HT.out.c0
    have t1 := HT.out.c1
    have t2 := HT.out.f0
    have t3 := HT.out.f1
    go_wp2_with fail
    refine (unmap_r F G L x0 _ nm s.a s.n _ HF.out H9.out (HFAM.out.keep HH.out.B) hnl (by omega) HC.out).mono ?_
    rintro e w2 ⟨gv, sv, rfl, hg, _, hb⟩
    obtain ⟨ga, gc, gm, rfl⟩ := hg.form
    have HG := Lib.hid hg
    have HH := Lib.hid (HH.out.later hb)
    have HT := Lib.hid (HT.out.later hb)
    clear hb hg b0 b1 s0 s1 s2 s3 s4 s5 r0 r1 f0 f1 t0 t1 t2 t3
    have HTL := Lib.hid hTl
    generalize w1.heap.size = T at *
    by_cases hx0 : x0 = 0
    · subst hx0
      obtain rfl : G = R9 := by have := HR9.out; rwa [if_pos rfl] at this
      have HP := Lib.hid (HH.out.far (T := T) hTl (.slice ga G.N gc) (.map gm))
      have HX := Lib.hid (HT.out.put (.slice ga G.N gc) (.map gm))
      have HG2 := Lib.hid (HT.out.famV (x := .slice ga G.N gc) (y := .map gm) famTy HG.out)
      have q0 := HX.out.c0
      have q1 := HX.out.c1
      have r0 := HP.out.rb.c0
      have r1 := HP.out.rb.c1
      have f0 := HP.out.rb.f0
      have f1 := HP.out.rb.f1
      have t0 := HT.out.c0
      have t1 := HT.out.c1
      have t2 := HT.out.f0
      have t3 := HT.out.f1
      clear hTl
      go_wp2_with fail
      have j0 := (HP.out.rb.put (.slice ga G.N gc) (.map gm)).c0
      have j1 := (HP.out.rb.put (.slice ga G.N gc) (.map gm)).c1
      (try simp only [Exit.inBlock, Exit.then])
      refine bodyPost_ret (v := .agg #[.slice ga G.N gc, .map gm]) (by first | (rw [results_cell_tmp rfl]; go_simp; done) | (rw [results_cell_tmp2 rfl]; go_simp; done) | (rw [results_cell_one rfl]; go_simp; done)) rfl ?_
      exact ⟨_, rfl, HP.out.rb.famV famTy HG2.out, HP.out.below _ _⟩
    · have d0 : (x0 == 0) = false := by simpa using hx0
      obtain rfl : F = R9 := by have := HR9.out; rwa [if_neg hx0] at this
      have HP := Lib.hid (HH.out.far (T := T) hTl (.slice ga G.N gc) (.map gm))
      have HF2 := Lib.hid (HT.out.famV (x := .slice ga G.N gc) (y := .map gm) famTy (HFAM.out.keep HH.out.B))
      have b0 := HP.out.fb.c0
      have b1 := HP.out.fb.c1
      have r0 := HP.out.rb.c0
      have r1 := HP.out.rb.c1
      have f0 := HP.out.rb.f0
      have f1 := HP.out.rb.f1
      have t0 := HT.out.c0
      have t1 := HT.out.c1
      have t2 := HT.out.f0
      have t3 := HT.out.f1
      clear hx0 hTl
      go_wp2_with fail
      have j0 := (HP.out.rb.put (.slice a F.N c) (.map mb)).c0
      have j1 := (HP.out.rb.put (.slice a F.N c) (.map mb)).c1
      (try simp only [Exit.inBlock, Exit.then])
      refine bodyPost_ret (v := .agg #[.slice a F.N c, .map mb]) (by first | (rw [results_cell_tmp rfl]; go_simp; done) | (rw [results_cell_tmp2 rfl]; go_simp; done) | (rw [results_cell_one rfl]; go_simp; done)) rfl ?_
      exact ⟨_, rfl, HP.out.rb.famV famTy HF2.out, HP.out.below _ _⟩
  · rw [if_neg h3]
    have e3 : (s.k % 8 == 3) = false := by simpa using h3
    clear h0 h1 h2 h3
    obtain ⟨G, L, x0, hcr⟩ : ∃ G L x0, assignF F nm ⟨s.a, s.n, s.s⟩ = (G, L, x0) := ⟨_, _, _, rfl⟩
    have HC := Lib.hid hcr
    rw [hcr]
    simp only
    obtain ⟨R9, hR9⟩ : ∃ R, (if x0 = 0 then G else F) = R := ⟨_, rfl⟩
    rw [hR9]
    have HR9 := Lib.hid hR9
    clear hcr hR9
    go_enter Tryz.func90, Tryz.ntmps90
    go_wp2_with fail
    refine (rnames_r s.v nm _ HS.out.v HNM.out).mono ?_
    rintro e w1 ⟨rfl, hb⟩
    have hk1 := hb.onAlloc (.cells #[.slice none 0 0, .map none] 28)
    have HT := Lib.hid (Bx.new w1 _ rfl (.slice none 0 0) (.map none) 28)
    have hTl : w.heap.size + 1 + 1 < w1.heap.size := (HH.out.later hb).rb.lt
    have HH := Lib.hid (HH.out.later hk1)
    clear hb hk1
    have b0 := HH.out.fb.c0
    have b1 := HH.out.fb.c1
    have s0 := HH.out.sx.s0
    have s1 := HH.out.sx.s1
    have s2 := HH.out.sx.s2
    have s3 := HH.out.sx.s3
    have s4 := HH.out.sx.s4
    have s5 := HH.out.sx.s5
    have r0 := HH.out.rb.c0
    have r1 := HH.out.rb.c1
    have f0 := HH.out.rb.f0
    have f1 := HH.out.rb.f1
    have t0 := HT.out.c0
    have t1 := HT.out.c1
    have t2 := HT.out.f0
    have t3 := HT.out.f1
    go_wp2_with fail
    refine (assign_r F G L x0 _ nm ⟨s.a, s.n, s.s⟩ _ HF.out H9.out (HFAM.out.keep HH.out.B) hnl (by unfold E.wf; simp only; omega) HC.out).mono ?_
    rintro e w2 ⟨gv, sv, rfl, hg, _, hb⟩
    obtain ⟨ga, gc, gm, rfl⟩ := hg.form
    have HG := Lib.hid hg
    have HH := Lib.hid (HH.out.later hb)
    have HT := Lib.hid (HT.out.later hb)
    clear hb hg b0 b1 s0 s1 s2 s3 s4 s5 r0 r1 f0 f1 t0 t1 t2 t3
    have HTL := Lib.hid hTl
    generalize w1.heap.size = T at *
    by_cases hx0 : x0 = 0
    · subst hx0
      obtain rfl : G = R9 := by have := HR9.out; rwa [if_pos rfl] at this
      have HP := Lib.hid (HH.out.far (T := T) hTl (.slice ga G.N gc) (.map gm))
      have HX := Lib.hid (HT.out.put (.slice ga G.N gc) (.map gm))
      have HG2 := Lib.hid (HT.out.famV (x := .slice ga G.N gc) (y := .map gm) famTy HG.out)
      have q0 := HX.out.c0
      have q1 := HX.out.c1
      have r0 := HP.out.rb.c0
      have r1 := HP.out.rb.c1
      have f0 := HP.out.rb.f0
      have f1 := HP.out.rb.f1
      have t0 := HT.out.c0
      have t1 := HT.out.c1
      have t2 := HT.out.f0
      have t3 := HT.out.f1
      clear hTl
      go_wp2_with fail
      have j0 := (HP.out.rb.put (.slice ga G.N gc) (.map gm)).c0
      have j1 := (HP.out.rb.put (.slice ga G.N gc) (.map gm)).c1
      (try simp only [Exit.inBlock, Exit.then])
      refine bodyPost_ret (v := .agg #[.slice ga G.N gc, .map gm]) (by first | (rw [results_cell_tmp rfl]; go_simp; done) | (rw [results_cell_tmp2 rfl]; go_simp; done) | (rw [results_cell_one rfl]; go_simp; done)) rfl ?_
      exact ⟨_, rfl, HP.out.rb.famV famTy HG2.out, HP.out.below _ _⟩
    · have d0 : (x0 == 0) = false := by simpa using hx0
      obtain rfl : F = R9 := by have := HR9.out; rwa [if_neg hx0] at this
      have HP := Lib.hid (HH.out.far (T := T) hTl (.slice ga G.N gc) (.map gm))
      have HF2 := Lib.hid (HT.out.famV (x := .slice ga G.N gc) (y := .map gm) famTy (HFAM.out.keep HH.out.B))
      have b0 := HP.out.fb.c0
      have b1 := HP.out.fb.c1
      have r0 := HP.out.rb.c0
      have r1 := HP.out.rb.c1
      have f0 := HP.out.rb.f0
      have f1 := HP.out.rb.f1
      have t0 := HT.out.c0
      have t1 := HT.out.c1
      have t2 := HT.out.f0
      have t3 := HT.out.f1
      clear hx0 hTl
      go_wp2_with fail
      have j0 := (HP.out.rb.put (.slice a F.N c) (.map mb)).c0
      have j1 := (HP.out.rb.put (.slice a F.N c) (.map mb)).c1
      (try simp only [Exit.inBlock, Exit.then])
      refine bodyPost_ret (v := .agg #[.slice a F.N c, .map mb]) (by first | (rw [results_cell_tmp rfl]; go_simp; done) | (rw [results_cell_tmp2 rfl]; go_simp; done) | (rw [results_cell_one rfl]; go_simp; done)) rfl ?_
      exact ⟨_, rfl, HP.out.rb.famV famTy HF2.out, HP.out.below _ _⟩
end Go.Proofs.YtpakjddfnhnndaaGreat

namespace Go.Proofs.YtpakjddfnhnndaaGreat
set_option linter.unusedSimpArgs false
set_option linter.unusedVariables false
set_option maxRecDepth 100000
open Go.RowKit Go.Maps

theorem RdS36.oks {w : World} {a : Option Addr} {S : List Step36} (h : RdS36 w a S) : ∀ s ∈ S, s.ok := fun s hs => by
  obtain ⟨k, hk, rfl⟩ := List.mem_iff_getElem.1 hs
  obtain ⟨b, o, _, hat⟩ := h.at (by omega)
  exact (hat k _ (List.getElem?_eq_getElem hk)).ok
/-- The variable of Run. -/
structure RB (w0 W : World) (T : Nat) (u v : Value) (F : Fam) : Prop where
  gb : Bx W T 45 u v
  famr : FamR W (.agg #[u, v]) F
  r : Bx W w0.heap.size 45 (.int .i64 0) (.slice none 0 0)
  o : w0.heap.size < T
  B : Below w0.heap.size w0 W
theorem RB.later {w0 W W' : World} {T : Nat} {u v : Value} {F : Fam} (h : RB w0 W T u v F) (hb : Below W.heap.size W W') : RB w0 W' T u v F := ⟨h.gb.later hb, h.famr.keep hb, h.r.later hb, h.o, h.B.on hb⟩
theorem RB.put {w0 W : World} {T : Nat} {u v x y : Value} {F G : Fam} (h : RB w0 W T u v F) (hg : FamR W (.agg #[x, y]) G) : RB w0 (fam2 W T x y) T x y G := by
  have q := h.o
  exact ⟨h.gb.put x y, h.gb.famR hg, h.r.far (by omega) x y, q, (h.B.setCell (by simp only; omega) _).setCell (by simp only; omega) _⟩
theorem ite_step {F : Fam} {s : Step36} {G : Fam} {L : List E} {x0 : Int} (h : stepF F s = (G, L, x0)) : stepE F s = if x0 = 0 then G else F := by
  unfold stepE
  rw [h]
def RunPost (w : World) (G : Fam) (e : Ending) (w' : World) : Prop := ∃ gv, e = .returned gv ∧ FamR w' gv G ∧ Below w.heap.size w w'
set_option maxHeartbeats 16000000 in
theorem run36_is (m : Nat) (S : List Step36) (a : Option Addr) (c : Nat) (w : World) (hm : m ≤ 65536) (hr : RdS36 w a S) :
    Calls Tryz.prog 91 #[.int .i64 m, .slice a S.length c] w (RunPost w (scriptF ⟨m, []⟩ S)) := by
  have hSl := hr.1
  obtain ⟨F0, hF0⟩ : ∃ F, F = (⟨m, []⟩ : Fam) := ⟨_, rfl⟩
  have HGD0 : Hid F0.good := Lib.hid (by rw [hF0]; exact good_new m hm)
  have HF0 := Lib.hid hF0
  rw [← hF0]
  have HRS := Lib.hid hr
  have HR := Lib.hid (Bx.new w _ rfl (.int .i64 0) (.slice none 0 0) 45)
  have HBW := Lib.hid ((Below.refl w.heap.size w).onAlloc (.cells #[.int .i64 0, .slice none 0 0] 45))
  clear hr hF0
  go_enter Tryz.func91, Tryz.ntmps91
  go_wp2_with fail
  refine (rfnew_is m _ hm).mono ?_
  rintro e w2 ⟨gv, rfl, hg, hb⟩
  have hg : FamR w2 gv F0 := by rw [HF0.out]; exact hg
  obtain ⟨ra, rn, rc, rfl⟩ := hg.form
  have hk := (Below.refl w2.heap.size w2).onAlloc (.cells #[.int .i64 F0.N, .slice ra rn rc] 45)
  have hT9 : w.heap.size < w2.heap.size := by have := hb.size; simp only [World.size_alloc] at this; omega
  have HP : Hid (RB w (w2.alloc (.cells #[.int .i64 F0.N, .slice ra rn rc] 45)) w2.heap.size (.int .i64 F0.N) (.slice ra rn rc) F0) :=
    Lib.hid ⟨Bx.new w2 _ rfl _ _ _, hg.keep hk, (HR.out.later hb).later hk, hT9, (HBW.out.on hb).on hk⟩
  clear hk hg hb hT9 HR HBW
  go_wp2_with fail
  generalize w2.alloc (.cells #[.int .i64 F0.N, .slice ra rn rc] 45) = w3 at *
  generalize w2.heap.size = S9 at *
  go_loopw [7] (fun i wr => ∃ (k : Nat) (F : Fam) (x y : Value), k ≤ S.length ∧ i = .int .i64 k ∧ F.good ∧ F = scriptF F0 (S.take k) ∧ RB w wr S9 x y F) (fun i _ => S.length - (intOf i).toNat)
  case atStart => exact ⟨0, F0, _, _, Nat.zero_le _, rfl, HGD0.out, rfl, HP.out⟩
  case round =>
    clear HP
    obtain ⟨k, F, x, y, hk, rfl, hgd, hFS, hp⟩ := hrel
    obtain ⟨ra, rn, rc, he⟩ := hp.famr.form
    obtain ⟨rfl, rfl⟩ : x = .int .i64 F.N ∧ y = .slice ra rn rc := by
      injection he with he
      have h1 := congrArg Array.toList he
      simp at h1
      exact h1
    have HP := Lib.hid hp
    have HGD := Lib.hid hgd
    have HFS := Lib.hid hFS
    clear hp hgd hFS he
    by_cases hlt : k < S.length
    · have HTK := Lib.hid (scriptF_take F0 S k hlt)
      obtain ⟨sb, so, rfl, hat⟩ := (HRS.out.keep HP.out.B).at (by omega)
      have hst := hat k _ (List.getElem?_eq_getElem hlt)
      generalize S[k] = s at *
      have HST := Lib.hid hst
      clear hst hat
      obtain ⟨G, L, x0, hcr⟩ : ∃ G L x0, stepF F s = (G, L, x0) := ⟨_, _, _, rfl⟩
      have HC := Lib.hid hcr
      have HLL : Hid (L.length ≤ 46912496118443) := Lib.hid (by have := step_short F s; rw [hcr] at this; exact this)
      have HSE : Hid (scriptF F0 (S.take (k + 1)) = if x0 = 0 then G else F) := Lib.hid (by rw [HTK.out, ← HFS.out]; exact ite_step hcr)
      have HGG : Hid (G.good) := Lib.hid (by have := good_step HGD.out HST.out.ok; rw [hcr] at this; exact this)
      have hk0 : (0 : Int) ≤ k := by omega
      have hk1 : (k : Int) < S.length := by omega
      have HS9 : Hid (S9 < wr.heap.size) := Lib.hid HP.out.gb.lt
      clear hcr HTK
      go_upto_region 5 with fail
      skip
      have HV := Lib.hid (HP.out.later (Below.refl _ _).drew)
      have HSV := Lib.hid (HST.out.keep (Below.refl _ _).drew)
      have h9d : wr.drew.heap.size = wr.heap.size := rfl
      go_cut [8, 9, 10] from 22 to 32 (fun p q r wx => ApC wr FamR 45 G L x0 p q r wx)
      case first =>
        have HB1 : Hid (Bx (wr.alloc (.cells #[(.int .i64 0), (.slice none 0 0)] 45)).drew wr.heap.size 45 (.int .i64 0) (.slice none 0 0)) := Lib.hid ((Bx.new wr _ rfl (.int .i64 0) (.slice none 0 0) 45).later (Below.refl _ _).drew)
        have hAL : Below wr.drew.heap.size wr.drew (wr.alloc (.cells #[(.int .i64 0), (.slice none 0 0)] 45)).drew := (Below.refl wr.drew.heap.size wr.drew).onAlloc (.cells #[(.int .i64 0), (.slice none 0 0)] 45)
        have HAV := Lib.hid (HV.out.later hAL)
        have HAS := Lib.hid (HSV.out.keep hAL)
        have HAL := Lib.hid hAL
        clear hAL
        go_region_held3 (fun w' => w'.cell? ⟨S9, 0, none⟩ = some (.int .i64 F.N) ∧ w'.cell? ⟨S9, 1, none⟩ = some (.slice ra rn rc) ∧ StC w' sb (so + k * 6) s ∧ Below wr.drew.heap.size wr.drew w')
          (first
            | with_reducible exact ⟨HV.out.gb.c0, HV.out.gb.c1, HSV.out.cells, Below.refl _ _⟩
            | with_reducible exact ⟨HAV.out.gb.c0, HAV.out.gb.c1, HAS.out.cells, HAL.out⟩
            | with_reducible exact ⟨HVK.out.gb.c0, HVK.out.gb.c1, HSK.out.cells, hWK⟩
            | with_reducible exact ⟨HVL.out.gb.c0, HVL.out.gb.c1, HSL.out.cells, hWL⟩
            | with_reducible exact ⟨HVR.out.gb.c0, HVR.out.gb.c1, HSR.out.cells, hWR⟩
            | with_reducible exact ⟨HVP.out.gb.c0, HVP.out.gb.c1, HSP.out.cells, hWP⟩)
          (first
            | (go_at_call 35; have hW := (‹_ ∧ _ ∧ _ ∧ Below wr.drew.heap.size wr.drew _›).2.2.2; have hq := rapply_is F _ s _ HGD.out.1 (HV.out.later hW).famr HST.out.ok; rw [HC.out] at hq; refine hq.mono ?_; rintro e w3 ⟨gv, sv, rfl, hg, hso, hb3⟩; obtain ⟨ga, gn, gc, rfl⟩ := hg.form; obtain ⟨sa, sc, rfl, hrs⟩ := hso.rd HLL.out; have hWK := hW.on hb3; have HVK := Lib.hid (HV.out.later hWK); have HSK := Lib.hid (HSV.out.keep hWK); have hWL := hWK.onAlloc (.cells #[.int .i64 G.N, .slice ga gn gc] 45); have HVL := Lib.hid (HV.out.later hWL); have HSL := Lib.hid (HSV.out.keep hWL); have hWR := hWK.onAlloc (.cells #[(.int .i64 0), (.slice none 0 0)] 45); have HVR := Lib.hid (HV.out.later hWR); have HSR := Lib.hid (HSV.out.keep hWR); have hWP : Below wr.drew.heap.size wr.drew (fam2 w3 wr.heap.size (.int .i64 G.N) (.slice ga gn gc)) := (hWK.setCell (Nat.le_refl _) _).setCell (Nat.le_refl _) _; have HVP := Lib.hid (HV.out.later hWP); have HSP := Lib.hid (HSV.out.keep hWP); (try (have HBX := Lib.hid (HB1.out.later hb3); have t0 := HBX.out.c0; have t1 := HBX.out.c1; have t2 := HBX.out.f0; have t3 := HBX.out.f1))))
        · have h13 := (Below.refl wr.heap.size wr).drew.on hWK
          have hk9 := (Below.refl w3.heap.size w3).onAlloc (.cells #[.int .i64 G.N, .slice ga gn gc] 45)
          have HQ : Hid (ApC wr FamR 45 G L x0 (.pointer (some ⟨w3.heap.size, 0, none⟩)) (.slice sa L.length sc) (.int .i64 x0) (w3.alloc (.cells #[.int .i64 G.N, .slice ga gn gc] 45))) :=
            Lib.hid ⟨_, _, _, sa, sc, rfl, rfl, rfl, Bx.new w3 _ rfl (.int .i64 G.N) (.slice ga gn gc) 45, hg.keep hk9, hrs.keep hk9, h13.onAlloc _, h13.size⟩
          clear h13 hk9 hg hso hrs hb3 hq hWK hWL hWR hWP hW
          go_wp2_with fail
          go_meet
          exact HQ.out
        · have h13 := (Below.refl wr.heap.size wr).drew.on hWK
          have HQ : Hid (ApC wr FamR 45 G L x0 (.pointer (some ⟨wr.heap.size, 0, none⟩)) (.slice sa L.length sc) (.int .i64 x0) (fam2 w3 wr.heap.size (.int .i64 G.N) (.slice ga gn gc))) :=
            Lib.hid ⟨_, _, _, sa, sc, rfl, rfl, rfl, HBX.out.put _ _, HBX.out.famR hg, HBX.out.rd hrs, (h13.setCell (Nat.le_refl _) _).setCell (Nat.le_refl _) _, Nat.le_refl _⟩
          clear h13 hg hso hrs hb3 hq hWK hWL hWR hWP hW t0 t1 t2 t3
          go_wp2_with fail
          go_meet
          exact HQ.out
      case rest =>
        obtain ⟨TA, ua, va, qa, qc, rfl, rfl, rfl, hbx, hfm, hrd, hbl, hTA⟩ := hcut
        obtain ⟨WA, rfl⟩ : ∃ W2 : World, W2 = wc := ⟨_, rfl⟩
        have HXA := Lib.hid hbx
        have HFA := Lib.hid hfm
        have HP := Lib.hid (HP.out.later hbl)
        have HGS := Lib.hid HGG.out
        have hne : TA ≠ S9 := by have := HS9.out; omega
        clear hbx hfm hrd hbl hTA HST
        obtain ⟨ya, yn, yc, he⟩ := HFA.out.form
        obtain ⟨rfl, rfl⟩ : ua = .int .i64 G.N ∧ va = .slice ya yn yc := by
          injection he with he
          have h1 := congrArg Array.toList he
          simp at h1
          exact h1
        clear he
        have HNE := Lib.hid hne
        clear hne
        by_cases hx0 : x0 = 0
        · subst hx0
          have HSE2 : Hid (scriptF F0 (S.take (k + 1)) = G) := Lib.hid (by rw [HSE.out, if_pos rfl])
          have HQ := Lib.hid (HP.out.put HFA.out)
          have p0 := HP.out.gb.c0
          have p1 := HP.out.gb.c1
          have p2 := HP.out.gb.f0
          have p3 := HP.out.gb.f1
          have a0 := HXA.out.c0
          have a1 := HXA.out.c1
          clear HSE
          go_wp2_with fail
          go_roundw
          case rel => exact ⟨k + 1, G, _, _, by omega, by go_num, HGS.out, HSE2.out.symm, HQ.out⟩
          case measure => simp [intOf]; omega
        · have d0 : (x0 == 0) = false := by simpa using hx0
          have HSE2 : Hid (scriptF F0 (S.take (k + 1)) = F) := Lib.hid (by rw [HSE.out, if_neg hx0])
          clear hx0 HSE
          go_wp2_with fail
          go_roundw
          case rel => exact ⟨k + 1, F, _, _, by omega, by go_num, HGD.out, HSE2.out.symm, HP.out⟩
          case measure => simp [intOf]; omega
    · obtain rfl : k = S.length := by omega
      rw [List.take_length] at HFS
      have HF9 : Hid (FamR (fam2 wr w.heap.size (.int .i64 F.N) (.slice ra rn rc)) (.agg #[.int .i64 F.N, .slice ra rn rc]) (scriptF F0 S)) := Lib.hid (by rw [← HFS.out]; exact HP.out.r.famR HP.out.famr)
      have HB9 : Hid (Below w.heap.size w (fam2 wr w.heap.size (.int .i64 F.N) (.slice ra rn rc))) := Lib.hid ((HP.out.B.setCell (Nat.le_refl _) _).setCell (Nat.le_refl _) _)
      have e0 := HP.out.gb.c0
      have e1 := HP.out.gb.c1
      have r0 := HP.out.r.c0
      have r1 := HP.out.r.c1
      have f0 := HP.out.r.f0
      have f1 := HP.out.r.f1
      go_wp2_with fail
      have j0 := (HP.out.r.put (.int .i64 F.N) (.slice ra rn rc)).c0
      have j1 := (HP.out.r.put (.int .i64 F.N) (.slice ra rn rc)).c1
      (try simp only [Exit.inBlock, Exit.then])
      refine bodyPost_ret (v := .agg #[.int .i64 F.N, .slice ra rn rc]) (by first | (rw [results_cell_tmp rfl]; go_simp; done) | (rw [results_cell_tmp2 rfl]; go_simp; done) | (rw [results_cell_one rfl]; go_simp; done)) rfl ?_
      exact ⟨_, rfl, HF9.out, HB9.out⟩
/-- The variables of build. -/
structure FB (w0 W : World) (T : Nat) (u v : Value) (F : Fam) : Prop where
  fb : Bx W T 28 u v
  fam : FamV W (.agg #[u, v]) F
  r1 : Bx W w0.heap.size 28 (.slice none 0 0) (.map none)
  r2 : Bx W (w0.heap.size + 1) 45 (.int .i64 0) (.slice none 0 0)
  o : w0.heap.size + 1 < T
  B : Below w0.heap.size w0 W
theorem FB.later {w0 W W' : World} {T : Nat} {u v : Value} {F : Fam} (h : FB w0 W T u v F) (hb : Below W.heap.size W W') : FB w0 W' T u v F := ⟨h.fb.later hb, h.fam.keep hb, h.r1.later hb, h.r2.later hb, h.o, h.B.on hb⟩
theorem FB.put {w0 W : World} {T : Nat} {u v x y : Value} {F G : Fam} (h : FB w0 W T u v F) (hg : FamV W (.agg #[x, y]) G) : FB w0 (fam2 W T x y) T x y G := by
  have q := h.o
  exact ⟨h.fb.put x y, h.fb.famV famTy hg, h.r1.far (by omega) x y, h.r2.far (by omega) x y, q, (h.B.setCell (by simp only; omega) _).setCell (by simp only; omega) _⟩
/-- Both results are stored. -/
theorem two_res {w W : World} {R : Nat} {u v x y : Value} {F G : Fam} (r1 : Bx W R 28 (.slice none 0 0) (.map none)) (r2 : Bx W (R + 1) 45 (.int .i64 0) (.slice none 0 0)) (hf : FamV W (.agg #[u, v]) F) (hg : FamR W (.agg #[x, y]) G) (hB : Below w.heap.size w W) (hR : w.heap.size ≤ R) :
    FamV (fam2 (fam2 W R u v) (R + 1) x y) (.agg #[u, v]) F ∧ FamR (fam2 (fam2 W R u v) (R + 1) x y) (.agg #[x, y]) G ∧ Below w.heap.size w (fam2 (fam2 W R u v) (R + 1) x y) ∧ Bx (fam2 (fam2 W R u v) (R + 1) x y) R 28 u v ∧ Bx (fam2 (fam2 W R u v) (R + 1) x y) (R + 1) 45 x y := by
  have r2' := r2.far (R := R) (by omega) u v
  exact ⟨r2'.famV refTy (r1.famV famTy hf), r2'.famR (r1.famR hg), (((hB.setCell hR _).setCell hR _).setCell (by simp only; omega) _).setCell (by simp only; omega) _, (r1.put u v).far (by omega) x y, r2'.put x y⟩
def BuildPost37 (m : Nat) (w : World) (e : Ending) (w' : World) : Prop :=
  ∃ F fv gv, e = .returned (.tuple #[fv, gv]) ∧ F.good ∧ F.N = m ∧ FamV w' fv F ∧ FamR w' gv F ∧ Below w.heap.size w w'
theorem scriptF_N {F : Fam} (S : List Step36) : (scriptF F S).N = F.N := by
  induction S generalizing F with
  | nil => rfl
  | cons s r ih =>
    show (scriptF (stepE F s) r).N = F.N
    rw [ih]
    unfold stepE
    split
    · rename_i h; exact step_N F s h
    · rfl
set_option maxHeartbeats 16000000 in
theorem build37_is (n : Nat) (S : List Step36) (a : Option Addr) (c : Nat) (w : World) (hn : n ≤ 255) (hr : RdS36 w a S) :
    Calls Tryz.prog 40 #[.int .u8 n, .slice a S.length c] w (BuildPost37 (n % 50) w) := by
  have hm0 : n % 50 ≤ 65536 := by omega
  have hmod : ((n : Int) % 50) = ((n % 50 : Nat) : Int) := by omega
  have hSl := hr.1
  obtain ⟨m, hm⟩ : ∃ m, m = n % 50 := ⟨_, rfl⟩
  have HM := Lib.hid hmod
  rw [← hm] at hm0 HM ⊢
  have hm50 : m < 50 := by omega
  obtain ⟨F0, hF0⟩ : ∃ F, F = (⟨m, []⟩ : Fam) := ⟨_, rfl⟩
  have HF0 := Lib.hid hF0
  have HGD0 : Hid F0.good := Lib.hid (by rw [hF0]; exact good_new m hm0)
  have HRS := Lib.hid hr
  have HOKS := Lib.hid hr.oks
  clear hm hmod hF0 hr
  have h1 := (Below.refl w.heap.size w).onAlloc (.cells #[.slice none 0 0, .map none] 28)
  have h2 := h1.onAlloc (.cells #[.int .i64 0, .slice none 0 0] 45)
  have HR1 := Lib.hid ((Bx.new w _ rfl (.slice none 0 0) (.map none) 28).later ((Below.refl _ _).onAlloc (.cells #[.int .i64 0, .slice none 0 0] 45)))
  have HR2 := Lib.hid (Bx.new (w.alloc (.cells #[.slice none 0 0, .map none] 28)) (w.heap.size + 1) (by simp) (.int .i64 0) (.slice none 0 0) 45)
  have HBW := Lib.hid h2
  clear h1 h2
  go_enter Tryz.func40, Tryz.ntmps40
  go_wp2_with fail
  rw [HM.out]
  refine (fnew_yes m _ hm0).mono ?_
  rintro e w1 ⟨fv, rfl, hf, hb⟩
  have hf : FamV w1 fv F0 := by rw [HF0.out]; exact hf
  obtain ⟨fa, fc, fm, rfl⟩ := hf.form
  have hk := (Below.refl w1.heap.size w1).onAlloc (.cells #[.slice fa F0.N fc, .map fm] 28)
  have ho1 : w.heap.size + 1 < w1.heap.size := by have := hb.size; simp only [World.size_alloc] at this; omega
  have HP : Hid (FB w (w1.alloc (.cells #[.slice fa F0.N fc, .map fm] 28)) w1.heap.size (.slice fa F0.N fc) (.map fm) F0) :=
    Lib.hid ⟨Bx.new w1 _ rfl _ _ _, hf.keep hk, (HR1.out.later hb).later hk, (HR2.out.later hb).later hk, ho1, (HBW.out.on hb).on hk⟩
  clear hk hf hb ho1 HR1 HR2 HBW
  go_wp2_with fail
  generalize w1.alloc (.cells #[.slice fa F0.N fc, .map fm] 28) = w3 at *
  generalize w1.heap.size = T at *
  go_loopw [8] (fun i wr => ∃ (k : Nat) (F : Fam) (u v : Value), k ≤ S.length ∧ i = .int .i64 k ∧ F.good ∧ F = scriptF F0 (S.take k) ∧ FB w wr T u v F) (fun i _ => S.length - (intOf i).toNat)
  case atStart => exact ⟨0, F0, _, _, Nat.zero_le _, rfl, HGD0.out, rfl, HP.out⟩
  case round =>
    clear HP
    obtain ⟨k, F, u, v, hk, rfl, hgd, hFS, hp⟩ := hrel
    obtain ⟨fa, fc, fm, he⟩ := hp.fam.form
    obtain ⟨rfl, rfl⟩ : u = .slice fa F.N fc ∧ v = .map fm := by
      injection he with he
      have h1 := congrArg Array.toList he
      simp at h1
      exact h1
    have HP := Lib.hid hp
    have HGD := Lib.hid hgd
    have HFS := Lib.hid hFS
    clear hp hgd hFS he
    by_cases hlt : k < S.length
    · have HTK := Lib.hid (scriptF_take F0 S k hlt)
      obtain ⟨sb, so, rfl, hat⟩ := (HRS.out.keep HP.out.B).at (by omega)
      have hst := hat k _ (List.getElem?_eq_getElem hlt)
      generalize S[k] = s at *
      have HST := Lib.hid hst
      have HSE : Hid (scriptF F0 (S.take (k + 1)) = stepE F s) := Lib.hid (by rw [HTK.out, ← HFS.out])
      have HGG : Hid (stepE F s).good := Lib.hid (good_stepE HGD.out HST.out.ok)
      have hk0 : (0 : Int) ≤ k := by omega
      have hk1 : (k : Int) < S.length := by omega
      clear hst hat HTK
      go_upto_region 5 with fail
      have hVd := (Below.refl wr.heap.size wr).drew
      have HV := Lib.hid (HP.out.later hVd)
      have p0 := HP.out.fb.c0
      have p1 := HP.out.fb.c1
      have s0 := HST.out.c0
      have s1 := HST.out.c1
      have s2 := HST.out.c2
      have s3 := HST.out.c3
      have s4 := HST.out.c4
      have s5 := HST.out.c5
      clear hVd
      go_region_law ((go_simp; go_at_call 90; refine (apply37_is F _ s _ HGD.out.1 (small_short HGD.out.1 HGD.out.2) HV.out.fam HST.out.ok).mono ?_; rintro e w5 ⟨gv, rfl, hg, hb5⟩; obtain ⟨ga, gc, gm, rfl⟩ := hg.form; have HP5 := Lib.hid (HV.out.later hb5); have q0 := HP5.out.fb.c0; have q1 := HP5.out.fb.c1; have q2 := HP5.out.fb.f0; have q3 := HP5.out.fb.f1))
      all_goals
        have HQ := Lib.hid (HP5.out.put hg)
        clear p0 p1 s0 s1 s2 s3 s4 s5 q0 q1 q2 q3 hg hb5 HV HP5
        go_wp2_with fail
        go_roundw
        case rel => exact ⟨k + 1, _, _, _, by omega, by go_num, HGG.out, HSE.out.symm, HQ.out⟩
        case measure => simp [intOf]; omega
    · obtain rfl : k = S.length := by omega
      rw [List.take_length] at HFS
      have HFN : Hid (F.N = m) := Lib.hid (by rw [HFS.out, scriptF_N, HF0.out])
      have HFS2 : Hid (F = scriptF ⟨m, []⟩ S) := Lib.hid (by rw [HFS.out, HF0.out])
      have e0 := HP.out.fb.c0
      have e1 := HP.out.fb.c1
      go_upto_region 6 with fail
      have HTM : Hid (IntKind.i64.wrap ((n : Int).tmod 50) = (m : Int)) := Lib.hid (by rw [Int.tmod_eq_emod_of_nonneg (by omega), HM.out]; exact IntWalk.i64_in _ (by omega))
      have HPD := Lib.hid (HP.out.later (Below.refl _ _).drew)
      clear e0 e1
      go_region_held3 (fun w' => w'.cell? ⟨T, 0, none⟩ = some (.slice fa F.N fc) ∧ w'.cell? ⟨T, 1, none⟩ = some (.map fm))
        (first
          | with_reducible exact ⟨HPD.out.fb.c0, HPD.out.fb.c1⟩
          | with_reducible exact ⟨HP5.out.fb.c0, HP5.out.fb.c1⟩
          | with_reducible exact ⟨HF6.out.c0, HF6.out.c1⟩
          | with_reducible exact ⟨HF7.out.c0, HF7.out.c1⟩
          | with_reducible exact ⟨HF8.out.c0, HF8.out.c1⟩)
        (first
          | (go_at_call 91; rw [HTM.out]; refine (run36_is m S _ c _ hm0 (HRS.out.keep HPD.out.B)).mono ?_; rintro e w5 ⟨gv, rfl, hg, hb5⟩; obtain ⟨ra, rn, rc, rfl⟩ := hg.form; have HP5 := Lib.hid (HPD.out.later hb5); have r0 := HP5.out.r1.c0; have r1 := HP5.out.r1.c1; have r2 := HP5.out.r1.f0; have r3 := HP5.out.r1.f1; have s0 := HP5.out.r2.c0; have s1 := HP5.out.r2.c1; have s2 := HP5.out.r2.f0; have s3 := HP5.out.r2.f1; have ho1 := HP5.out.o; have HF6 := Lib.hid (HP5.out.fb.far (R := w.heap.size) (by omega) (.slice fa F.N fc) (.map fm)); have HF7 := Lib.hid (HF6.out.far (R := w.heap.size + 1) (by omega) (.int .i64 (scriptF ⟨m, []⟩ S).N) (.slice ra rn rc)); have HF8 := Lib.hid (HP5.out.fb.far (R := w.heap.size + 1) (by omega) (.int .i64 (scriptF ⟨m, []⟩ S).N) (.slice ra rn rc)); clear ho1))
      all_goals
        have hg2 : FamR w5 (.agg #[.int .i64 (scriptF ⟨m, []⟩ S).N, .slice ra rn rc]) F := by rw [HFS2.out]; exact hg
        obtain ⟨z1, z2, z3, z4, z5⟩ := two_res HP5.out.r1 HP5.out.r2 HP5.out.fam hg2 HP5.out.B (Nat.le_refl _)
        have HZ1 := Lib.hid z1
        have HZ2 := Lib.hid z2
        have HZ3 := Lib.hid z3
        have j0 := z4.c0
        have j1 := z4.c1
        have j2 := z5.c0
        have j3 := z5.c1
        clear z1 z2 z3 z4 z5 r0 r1 r2 r3 s0 s1 s2 s3 HF6 HF7 HF8 hb5 hg hg2
        go_wp2_with fail
        refine bodyPost_ret (v := .tuple #[.agg #[.slice fa F.N fc, .map fm], .agg #[.int .i64 (scriptF ⟨m, []⟩ S).N, .slice ra rn rc]]) ?_ rfl ⟨F, _, _, rfl, HGD.out, HFN.out, HZ1.out, HZ2.out, HZ3.out⟩
        simp [results, Tryz.results40, go_sem, j0, j1, j2, j3]
end Go.Proofs.YtpakjddfnhnndaaGreat

namespace Go.Proofs.YtpakjddfnhnndaaGreat
set_option linter.unusedSimpArgs false
set_option linter.unusedVariables false
set_option maxRecDepth 100000
open Go.RowKit Go.Maps

theorem rassign_r (F G : Fam) (L : List E) (e0 : Int) (gv : Value) (nm : List UInt8) (x : E) (w : World) (hF : F.ok) (h : FamR w gv F) (hnm : nm.length ≤ maxLen) (hx : x.wf) (he : assignF F nm x = (G, L, e0)) :
    Calls Tryz.prog 84 #[gv, nmV nm, .agg #[.int .i64 x.a, .int .i64 x.n, .int .i64 x.s]] w (RPost3 w G L e0) := by
  have := rassign_is F gv nm x w hF h hnm hx
  rwa [he] at this
/-- Two families in boxes A and A + 1, two results in boxes R and R + 1. -/
structure GB (w0 W : World) (A R : Nat) (u v x y : Value) (F H : Fam) : Prop where
  fb : Bx W A 28 u v
  gb : Bx W (A + 1) 45 x y
  fam : FamV W (.agg #[u, v]) F
  famr : FamR W (.agg #[x, y]) H
  r1 : Bx W R 28 (.slice none 0 0) (.map none)
  r2 : Bx W (R + 1) 45 (.int .i64 0) (.slice none 0 0)
  o : A + 1 < R
  le : w0.heap.size ≤ A
  B : Below w0.heap.size w0 W
section
variable {w0 W W' : World} {A R : Nat} {u v x y u' v' x' y' : Value} {F H G : Fam}
theorem GB.later (h : GB w0 W A R u v x y F H) (hb : Below W.heap.size W W') : GB w0 W' A R u v x y F H :=
  ⟨h.fb.later hb, h.gb.later hb, h.fam.keep hb, h.famr.keep hb, h.r1.later hb, h.r2.later hb, h.o, h.le, h.B.on hb⟩
theorem GB.putF (h : GB w0 W A R u v x y F H) (hg : FamV W (.agg #[u', v']) G) : GB w0 (fam2 W A u' v') A R u' v' x y G H := by
  have q1 := h.o
  have q2 := h.le
  exact ⟨h.fb.put u' v', h.gb.far (by omega) u' v', h.fb.famV famTy hg, h.fb.famR h.famr, h.r1.far (by omega) u' v', h.r2.far (by omega) u' v', q1, q2, (h.B.setCell q2 _).setCell q2 _⟩
theorem GB.putG (h : GB w0 W A R u v x y F H) (hg : FamR W (.agg #[x', y']) G) : GB w0 (fam2 W (A + 1) x' y') A R u v x' y' F G := by
  have q1 := h.o
  have q2 := h.le
  exact ⟨h.fb.far (by omega) x' y', h.gb.put x' y', h.gb.famV refTy h.fam, h.gb.famR hg, h.r1.far (by omega) x' y', h.r2.far (by omega) x' y', q1, q2, (h.B.setCell (by simp only; omega) _).setCell (by simp only; omega) _⟩
end
theorem GB.initW (w : World) (u v x y : Value) (F : Fam) (hf : FamV w (.agg #[u, v]) F) (hg : FamR w (.agg #[x, y]) F) (W : World)
    (hW : W = (((w.alloc (.cells #[u, v] 28)).alloc (.cells #[x, y] 45)).alloc (.cells #[.slice none 0 0, .map none] 28)).alloc (.cells #[.int .i64 0, .slice none 0 0] 45)) : GB w W w.heap.size (w.heap.size + 1 + 1) u v x y F F := by
  subst hW
  obtain ⟨W1, h1⟩ : ∃ W1, W1 = w.alloc (.cells #[u, v] 28) := ⟨_, rfl⟩
  obtain ⟨W2, h2⟩ : ∃ W2, W2 = W1.alloc (.cells #[x, y] 45) := ⟨_, rfl⟩
  obtain ⟨W3, h3⟩ : ∃ W3, W3 = W2.alloc (.cells #[.slice none 0 0, .map none] 28) := ⟨_, rfl⟩
  obtain ⟨W4, h4⟩ : ∃ W4, W4 = W3.alloc (.cells #[.int .i64 0, .slice none 0 0] 45) := ⟨_, rfl⟩
  rw [← h1, ← h2, ← h3, ← h4]
  have b1 : Below w.heap.size w W1 := by rw [h1]; exact (Below.refl _ _).onAlloc _
  have b2 : Below W1.heap.size W1 W2 := by rw [h2]; exact (Below.refl _ _).onAlloc _
  have b3 : Below W2.heap.size W2 W3 := by rw [h3]; exact (Below.refl _ _).onAlloc _
  have b4 : Below W3.heap.size W3 W4 := by rw [h4]; exact (Below.refl _ _).onAlloc _
  have s1 : W1.heap.size = w.heap.size + 1 := by rw [h1]; simp
  have s2 : W2.heap.size = w.heap.size + 1 + 1 := by rw [h2]; simp [s1]
  have s3 : W3.heap.size = w.heap.size + 1 + 1 + 1 := by rw [h3]; simp [s2]
  have bb := b1.on (b2.on (b3.on b4))
  refine ⟨?_, ?_, hf.keep bb, hg.keep bb, ?_, ?_, by omega, Nat.le_refl _, bb⟩
  · have q := Bx.new w _ rfl u v 28
    rw [← h1] at q
    exact q.later (b2.on (b3.on b4))
  · have q := Bx.new W1 (w.heap.size + 1) s1 x y 45
    rw [← h2] at q
    exact q.later (b3.on b4)
  · have q := Bx.new W2 (w.heap.size + 1 + 1) s2 (.slice none 0 0) (.map none) 28
    rw [← h3] at q
    exact q.later b4
  · have q := Bx.new W3 (w.heap.size + 1 + 1 + 1) s3 (.int .i64 0) (.slice none 0 0) 45
    rw [← h4] at q
    exact q
def WrPost (F : Fam) (v : Vol) (p n : Nat) (w : World) (e : Ending) (w' : World) : Prop :=
  ∃ G fv gv, e = .returned (.tuple #[fv, gv, .bool true]) ∧ WrI F v p n n G ∧ FamV w' fv G ∧ FamR w' gv G ∧ Below w.heap.size w w'
set_option maxHeartbeats 16000000 in
theorem write_is (F : Fam) (v : Vol) (fv gv : Value) (nm : List UInt8) (p n : Nat) (w : World) (hF : F.sound) (hv : getV F.vs nm = some v) (hf : FamV w fv F) (hg : FamR w gv F) (hnm : nm.length ≤ maxLen) (hb : ((p + n : Nat) : Int) ≤ v.n) (hr : restN F.C v.l p n ≤ claimV F.C v + roomF F) :
    Calls Tryz.prog 59 #[fv, gv, nmV nm, .int .i64 p, .int .i64 n] w (WrPost F v p n w) := by
  have hvn := (getV_mem hv).2
  have hb6 : p + n ≤ 65536 := by have := (hF.ok.vol v (getV_mem hv).1).n2; omega
  have hv' : getV F.vs v.nm = some v := by rw [hvn]; exact hv
  have hneed := need_range hF.ok hv' p n hb
  rw [hvn] at hneed
  obtain ⟨rn0, hrn⟩ : ∃ r, restN F.C v.l p n = r := ⟨_, rfl⟩
  obtain ⟨fr, hfr⟩ : ∃ r, freeN F = r := ⟨_, rfl⟩
  have hrf : 0 ≤ rn0 ∧ rn0 ≤ 65536 ∧ rn0 ≤ fr ∧ fr ≤ 65536 := by
    have h1 := claims_ge hF.ok hv'
    have h2 : roomF F = freeN F - claimsF F := rfl
    have h3 := restN_nonneg F.C v.l p n
    have h4 := area_le (zeroB F.C) F.N
    have h5 := hF.ok.hN
    have h6 : freeN F = area (zeroB F.C) F.N := rfl
    omega
  have HW0 := Lib.hid (WrI.start hF.ok hv' p n hF.room hr)
  rw [hrn] at hneed
  have HND := Lib.hid hneed
  have HFR := Lib.hid hfr
  obtain ⟨e1, e2, e3, e4⟩ := hrf
  have HF := Lib.hid hF
  have HVN := Lib.hid hvn
  have HV' := Lib.hid hv'
  have HBN := Lib.hid hb
  obtain ⟨fa, fc, fm, rfl⟩ := hf.form
  obtain ⟨ra, rn, rc, rfl⟩ := hg.form
  have HP := Lib.hid (GB.initW w _ _ _ _ F hf hg _ rfl)
  clear hF hv hf hg hb hr hvn hv' hneed hrn hfr
  go_enter Tryz.func59, Tryz.ntmps59
  have b0 := HP.out.fb.c0
  have b1 := HP.out.fb.c1
  have c0 := HP.out.gb.c0
  have c1 := HP.out.gb.c1
  go_wp2_with fail
  refine (qneed_is F rn0 0 _ nm p n _ HF.out.ok HF.out.short HP.out.famr hnm HND.out).mono ?_
  rintro e w1 ⟨rfl, hb⟩
  have HP := Lib.hid (HP.out.later hb)
  clear hb b0 b1 c0 c1
  have b0 := HP.out.fb.c0
  have b1 := HP.out.fb.c1
  have c0 := HP.out.gb.c0
  have c1 := HP.out.gb.c1
  go_wp2_with fail
  refine (qfree_is37 F fr _ _ HF.out.ok HP.out.famr HFR.out).mono ?_
  rintro e w2 ⟨rfl, hb⟩
  have HP := Lib.hid (HP.out.later hb)
  clear hb b0 b1 c0 c1
  go_wp2_with fail
  generalize hA : w.heap.size = A at HP
  obtain ⟨R, hR⟩ : ∃ R, R = A + 1 + 1 := ⟨_, rfl⟩
  rw [← hR] at HP
  subst hA
  go_loopw [15] (fun i wr => ∃ (j k : Nat) (G : Fam) (u v9 x y : Value), p ≤ k ∧ k ≤ p + n ∧ k = p + j ∧ i = .int .i64 k ∧ WrI F v p n j G ∧ GB w wr w.heap.size (w.heap.size + 1 + 1) u v9 x y G G) (fun i _ => p + n - (intOf i).toNat)
  case atStart => exact ⟨0, p, F, _, _, _, _, Nat.le_refl _, by omega, rfl, rfl, HW0.out, by rw [← hR]; exact HP.out⟩
  case round =>
    clear HP HW0
    obtain ⟨j, k, G, u, v9, x, y, hk1, hk2, hkj, rfl, hwi, hp⟩ := hrel
    obtain ⟨fa, fc, fm, he⟩ := hp.fam.form
    obtain ⟨rfl, rfl⟩ : u = .slice fa G.N fc ∧ v9 = .map fm := by
      injection he with he
      have h1 := congrArg Array.toList he
      simp at h1
      exact h1
    obtain ⟨ra, rn, rc, he⟩ := hp.famr.form
    obtain ⟨rfl, rfl⟩ : x = .int .i64 G.N ∧ y = .slice ra rn rc := by
      injection he with he
      have h1 := congrArg Array.toList he
      simp at h1
      exact h1
    have HP := Lib.hid hp
    have HWI := Lib.hid hwi
    have HKJ := Lib.hid hkj
    clear hp he hwi
    by_cases hlt : k < p + n
    · have hjn : j < n := by omega
      have HKJ := Lib.hid hkj
      obtain ⟨l, hl, _, _⟩ := HWI.out.get
      have HL := Lib.hid hl
      have HSN := Lib.hid (HWI.out.sound HF.out HV'.out)
      have hone := need_one HWI.out.ok (v := v.set l) hl k (by have := HBN.out; show _ < v.n; omega)
      have hone2 : needF G nm k 1 = (if exB G.C l k = true then 0 else 1, 0) := by rw [← HVN.out]; exact hone
      clear hone hl
      cases hex : exB G.C l k
      · rw [hex, if_neg (by decide)] at hone2
        have HND := Lib.hid hone2
        have hex2 : exB G.C l ((p + j : Nat) : Int) = false := by rw [← hkj]; exact hex
        have HFE := Lib.hid (HWI.out.free hjn HL.out hex2)
        have HEX := Lib.hid hex2
        clear hone2 hex2 hex hkj
        have b0 := HP.out.fb.c0
        have b1 := HP.out.fb.c1
        have c0 := HP.out.gb.c0
        have c1 := HP.out.gb.c1
        go_wp2_with fail
        refine (qneed_is G 1 0 _ nm k 1 _ HWI.out.ok HSN.out.short HP.out.famr hnm HND.out).mono ?_
        rintro e w3 ⟨rfl, hb⟩
        have HP := Lib.hid (HP.out.later hb)
        clear hb b0 b1 c0 c1
        have b0 := HP.out.fb.c0
        have b1 := HP.out.fb.c1
        have c0 := HP.out.gb.c0
        have c1 := HP.out.gb.c1
        go_wp2_with fail
        refine (qlowest_is G _ _ HWI.out.ok HP.out.famr).mono ?_
        rintro e w4 ⟨hb, ⟨_, hno⟩ | ⟨s, g, c, hs, hz, rfl, hcell⟩⟩
        · exfalso
          have := HFE.out
          omega
        obtain ⟨G2, h1, h2, h3⟩ := HWI.out.step hjn HL.out HEX.out HBN.out hs hz
        obtain ⟨L, hL⟩ : ∃ L, (assignF G v.nm ⟨((p + j : Nat) : Int), 1, s⟩).2.1 = L := ⟨_, rfl⟩
        have hasg : assignF G nm ⟨(k : Int), 1, s⟩ = (G2, L, 0) := by
          rw [← HVN.out, HKJ.out, ← h1, ← hL, ← h2]
        have HAS := Lib.hid hasg
        have HWN := Lib.hid h3
        have hs6 : s < 65536 := by have := HWI.out.ok.hN; omega
        have HP := Lib.hid (HP.out.later hb)
        have hk3 := (Below.refl w4.heap.size w4).onAlloc (.cells #[.int .i64 k, .int .i64 1, .int .i64 s] 65)
        have HXE := Lib.hid (XE.new w4 _ rfl (⟨k, 1, s⟩ : E))
        have HP2 := Lib.hid (HP.out.later hk3)
        have HX9 : Hid (w.heap.size + 1 + 1 + 1 < w4.heap.size) := Lib.hid HP.out.r2.lt
        have HXW : Hid (E.wf ⟨(k : Int), 1, s⟩) := Lib.hid (by unfold E.wf; simp only; omega)
        clear hb b0 b1 c0 c1 hs hz h1 h2 h3 hL hasg hk3
        go_upto_region 13 with fail
        clear hcell
        generalize w4.alloc (.cells #[.int .i64 k, .int .i64 1, .int .i64 s] 65) = W5 at *
        generalize w4.heap.size = X at *
        have b0 := HP2.out.fb.c0
        have b1 := HP2.out.fb.c1
        have x0 : W5.cell? ⟨X, 0, none⟩ = some (.int .i64 k) := HXE.out.e0
        have x1 : W5.cell? ⟨X, 1, none⟩ = some (.int .i64 1) := HXE.out.e1
        have x2 : W5.cell? ⟨X, 2, none⟩ = some (.int .i64 s) := HXE.out.e2
        go_wp2_with fail
        refine (assign_r G G2 L 0 _ nm ⟨k, 1, s⟩ _ HWI.out.ok HSN.out.short HP2.out.fam hnm HXW.out HAS.out).mono ?_
        rintro e w6 ⟨gv, sv, rfl, hg, _, hb⟩
        obtain ⟨ga, gc, gm, rfl⟩ := hg.form
        have HP := Lib.hid (HP2.out.later hb)
        have HXE := Lib.hid (HXE.out.later hb)
        have HPF := Lib.hid (HP.out.putF hg)
        have HXF : Hid (XE (fam2 w6 w.heap.size (.slice ga G2.N gc) (.map gm)) X ⟨k, 1, s⟩) := Lib.hid ((HXE.out.setAway (by have := HX9.out; omega)).setAway (by have := HX9.out; omega))
        have p0 := HP.out.fb.c0
        have p1 := HP.out.fb.c1
        have p2 := HP.out.fb.f0
        have p3 := HP.out.fb.f1
        have c0 := HPF.out.gb.c0
        have c1 := HPF.out.gb.c1
        have x0 : (fam2 w6 w.heap.size (.slice ga G2.N gc) (.map gm)).cell? ⟨X, 0, none⟩ = some (.int .i64 k) := HXF.out.e0
        have x1 : (fam2 w6 w.heap.size (.slice ga G2.N gc) (.map gm)).cell? ⟨X, 1, none⟩ = some (.int .i64 1) := HXF.out.e1
        have x2 : (fam2 w6 w.heap.size (.slice ga G2.N gc) (.map gm)).cell? ⟨X, 2, none⟩ = some (.int .i64 s) := HXF.out.e2
        clear hb hg b0 b1 HP2
        go_wp2_with fail
        refine (rassign_r G G2 L 0 _ nm ⟨k, 1, s⟩ _ HWI.out.ok HPF.out.famr hnm HXW.out HAS.out).mono ?_
        rintro e w7 ⟨gv, sv, rfl, hg, _, hb⟩
        obtain ⟨ya, yn, yc, rfl⟩ := hg.form
        have HP := Lib.hid (HPF.out.later hb)
        have HPG := Lib.hid (HP.out.putG hg)
        clear hb hg p0 p1 p2 p3 c0 c1 x0 x1 x2 HPF HXF HXE
        have c0 := HP.out.gb.c0
        have c1 := HP.out.gb.c1
        have c2 := HP.out.gb.f0
        have c3 := HP.out.gb.f1
        go_wp2_with fail
        go_roundw
        case rel => exact ⟨j + 1, k + 1, G2, _, _, _, _, by omega, by omega, by have := HKJ.out; omega, by go_num, HWN.out, HPG.out⟩
        case measure => simp [intOf]; omega
      · rw [hex, if_pos rfl] at hone2
        have HND := Lib.hid hone2
        have hex2 : exB G.C l ((p + j : Nat) : Int) = true := by rw [← hkj]; exact hex
        have HWN := Lib.hid (HWI.out.skip hjn HL.out hex2)
        have HKJ := Lib.hid hkj
        clear hone2 hex2 hex hkj
        have b0 := HP.out.fb.c0
        have b1 := HP.out.fb.c1
        have c0 := HP.out.gb.c0
        have c1 := HP.out.gb.c1
        go_wp2_with fail
        refine (qneed_is G 0 0 _ nm k 1 _ HWI.out.ok HSN.out.short HP.out.famr hnm HND.out).mono ?_
        rintro e w3 ⟨rfl, hb⟩
        have HP := Lib.hid (HP.out.later hb)
        clear hb b0 b1 c0 c1
        have b0 := HP.out.fb.c0
        have b1 := HP.out.fb.c1
        have c0 := HP.out.gb.c0
        have c1 := HP.out.gb.c1
        go_wp2_with fail
        refine (qlowest_is G _ _ HWI.out.ok HP.out.famr).mono ?_
        rintro e w4 ⟨hb, he⟩
        have HP := Lib.hid (HP.out.later hb)
        clear hb b0 b1 c0 c1
        rcases he with ⟨rfl, _⟩ | ⟨s, g, c, _, _, rfl, _⟩
        all_goals
          go_wp2_with fail
          go_roundw
          case rel => exact ⟨j + 1, k + 1, G, _, _, _, _, by omega, by omega, by have := HKJ.out; omega, by go_num, HWN.out, HP.out⟩
          case measure => simp [intOf]; omega
    · obtain rfl : j = n := by omega
      obtain rfl : k = p + j := hkj
      go_upto_region 15 with fail
      have a0 := HP.out.fb.c0
      have a1 := HP.out.fb.c1
      have d0 := HP.out.gb.c0
      have d1 := HP.out.gb.c1
      have r0 := HP.out.r1.c0
      have r1 := HP.out.r1.c1
      have r2 := HP.out.r1.f0
      have r3 := HP.out.r1.f1
      have s0 := HP.out.r2.c0
      have s1 := HP.out.r2.c1
      have s2 := HP.out.r2.f0
      have s3 := HP.out.r2.f1
      have hoo := HP.out.o
      have m0 := (HP.out.gb.far (R := w.heap.size + 1 + 1) (by omega) (.slice fa G.N fc) (.map fm)).c0
      have m1 := (HP.out.gb.far (R := w.heap.size + 1 + 1) (by omega) (.slice fa G.N fc) (.map fm)).c1
      have m2 := (HP.out.r2.far (R := w.heap.size + 1 + 1) (by omega) (.slice fa G.N fc) (.map fm)).c0
      have m3 := (HP.out.r2.far (R := w.heap.size + 1 + 1) (by omega) (.slice fa G.N fc) (.map fm)).c1
      clear hoo
      go_region_law (fail)
      all_goals
        obtain ⟨z1, z2, z3, z4, z5⟩ := two_res HP.out.r1 HP.out.r2 HP.out.fam HP.out.famr HP.out.B (by have := HP.out.o; have := HP.out.le; omega)
        have HZ1 := Lib.hid (z1.keep (Below.refl _ _).drew)
        have HZ2 := Lib.hid (z2.keep (Below.refl _ _).drew)
        have HZ3 := Lib.hid z3.drew
        have j0 := z4.c0
        have j1 := z4.c1
        have j2 := z5.c0
        have j3 := z5.c1
        clear z1 z2 z3 z4 z5 a0 a1 d0 d1 r0 r1 r2 r3 s0 s1 s2 s3 m0 m1 m2 m3
        go_wp2_with fail
        refine bodyPost_ret (v := .tuple #[.agg #[.slice fa G.N fc, .map fm], .agg #[.int .i64 G.N, .slice ra rn rc], .bool true]) ?_ rfl ⟨G, _, _, rfl, HWI.out, HZ1.out, HZ2.out, HZ3.out⟩
        simp [results, Tryz.results59, go_sem, j0, j1, j2, j3]
end Go.Proofs.YtpakjddfnhnndaaGreat

namespace Go.Proofs.YtpakjddfnhnndaaGreat
set_option linter.unusedSimpArgs false
set_option linter.unusedVariables false
set_option maxRecDepth 100000
open Go.RowKit Go.Maps

/-- The memory of permitted. -/
structure PB (w W : World) (u v x y : Value) (s : Step36) (F H : Fam) : Prop where
  g : GB w W w.heap.size (w.heap.size + 1 + 1 + 1) u v x y F H
  sx : SX W (w.heap.size + 1 + 1) s
theorem PB.later {w W W' : World} {u v x y : Value} {s : Step36} {F H : Fam} (h : PB w W u v x y s F H) (hb : Below W.heap.size W W') : PB w W' u v x y s F H := ⟨h.g.later hb, h.sx.later hb⟩
theorem SX.far {W : World} {X T : Nat} {s : Step36} (h : SX W X s) (hne : X ≠ T) (x y : Value) : SX (fam2 W T x y) X s :=
  ⟨(fam2_far hne).trans h.s0, (fam2_far hne).trans h.s1, (fam2_far hne).trans h.s2, (fam2_far hne).trans h.s3, (fam2_far hne).trans h.s4, (fam2_far hne).trans h.s5⟩
theorem PB.putF {w W : World} {u v x y u' v' : Value} {s : Step36} {F H G : Fam} (h : PB w W u v x y s F H) (hg : FamV W (.agg #[u', v']) G) : PB w (fam2 W w.heap.size u' v') u' v' x y s G H := ⟨h.g.putF hg, h.sx.far (by omega) _ _⟩
theorem PB.putG {w W : World} {u v x y x' y' : Value} {s : Step36} {F H G : Fam} (h : PB w W u v x y s F H) (hg : FamR W (.agg #[x', y']) G) : PB w (fam2 W (w.heap.size + 1) x' y') u v x' y' s F G := ⟨h.g.putG hg, h.sx.far (by omega) _ _⟩
theorem PB.init (w : World) (u v x y : Value) (s : Step36) (F : Fam) (hf : FamV w (.agg #[u, v]) F) (hg : FamR w (.agg #[x, y]) F) (W : World)
    (hW : W = ((((w.alloc (.cells #[u, v] 28)).alloc (.cells #[x, y] 45)).alloc (.cells #[.int .u8 s.k, .int .u8 s.v, .int .u8 s.o, .int .u8 s.a, .int .u8 s.n, .int .u8 s.s] 50)).alloc (.cells #[.slice none 0 0, .map none] 28)).alloc (.cells #[.int .i64 0, .slice none 0 0] 45)) : PB w W u v x y s F F := by
  subst hW
  obtain ⟨W1, h1⟩ : ∃ W1, W1 = w.alloc (.cells #[u, v] 28) := ⟨_, rfl⟩
  obtain ⟨W2, h2⟩ : ∃ W2, W2 = W1.alloc (.cells #[x, y] 45) := ⟨_, rfl⟩
  obtain ⟨W5, h5⟩ : ∃ W5, W5 = W2.alloc (.cells #[.int .u8 s.k, .int .u8 s.v, .int .u8 s.o, .int .u8 s.a, .int .u8 s.n, .int .u8 s.s] 50) := ⟨_, rfl⟩
  obtain ⟨W3, h3⟩ : ∃ W3, W3 = W5.alloc (.cells #[.slice none 0 0, .map none] 28) := ⟨_, rfl⟩
  obtain ⟨W4, h4⟩ : ∃ W4, W4 = W3.alloc (.cells #[.int .i64 0, .slice none 0 0] 45) := ⟨_, rfl⟩
  rw [← h1, ← h2, ← h5, ← h3, ← h4]
  have b1 : Below w.heap.size w W1 := by rw [h1]; exact (Below.refl _ _).onAlloc _
  have b2 : Below W1.heap.size W1 W2 := by rw [h2]; exact (Below.refl _ _).onAlloc _
  have b5 : Below W2.heap.size W2 W5 := by rw [h5]; exact (Below.refl _ _).onAlloc _
  have b3 : Below W5.heap.size W5 W3 := by rw [h3]; exact (Below.refl _ _).onAlloc _
  have b4 : Below W3.heap.size W3 W4 := by rw [h4]; exact (Below.refl _ _).onAlloc _
  have s1 : W1.heap.size = w.heap.size + 1 := by rw [h1]; simp
  have s2 : W2.heap.size = w.heap.size + 1 + 1 := by rw [h2]; simp [s1]
  have s5 : W5.heap.size = w.heap.size + 1 + 1 + 1 := by rw [h5]; simp [s2]
  have s3 : W3.heap.size = w.heap.size + 1 + 1 + 1 + 1 := by rw [h3]; simp [s5]
  have b345 := b5.on (b3.on b4)
  have bb := b1.on (b2.on b345)
  refine ⟨⟨?_, ?_, hf.keep bb, hg.keep bb, ?_, ?_, by omega, Nat.le_refl _, bb⟩, ?_⟩
  · have q := Bx.new w _ rfl u v 28
    rw [← h1] at q
    exact q.later (b2.on b345)
  · have q := Bx.new W1 (w.heap.size + 1) s1 x y 45
    rw [← h2] at q
    exact q.later b345
  · have q := Bx.new W5 (w.heap.size + 1 + 1 + 1) s5 (.slice none 0 0) (.map none) 28
    rw [← h3] at q
    exact q.later b4
  · have q := Bx.new W3 (w.heap.size + 1 + 1 + 1 + 1) s3 (.int .i64 0) (.slice none 0 0) 45
    rw [← h4] at q
    exact q
  · have q := SX.new W2 (w.heap.size + 1 + 1) s2 s 50
    rw [← h5] at q
    exact q.later (b3.on b4)
def Perm37Post (F : Fam) (w : World) (e : Ending) (w' : World) : Prop :=
  ∃ G fv gv, e = .returned (.tuple #[fv, gv, .bool true]) ∧ G.sound ∧ Keeps F G ∧ FamV w' fv G ∧ FamR w' gv G ∧ Below w.heap.size w w'
set_option maxHeartbeats 32000000 in
theorem perm37_is (F : Fam) (fv gv : Value) (s : Step36) (w : World) (hF : F.sound) (hf : FamV w fv F) (hg : FamR w gv F) (hs : s.ok) :
    Calls Tryz.prog 56 #[fv, gv, s.val] w (Perm37Post F w) := by
  obtain ⟨fa, fc, fm, rfl⟩ := hf.form
  obtain ⟨ra, rn, rc, rfl⟩ := hg.form
  have HH := Lib.hid (PB.init w _ _ _ _ s F hf hg _ rfl)
  have HF := Lib.hid hF
  obtain ⟨nm, hnm, hnl⟩ : ∃ nm, nameN s.v = nm ∧ nm.length ≤ maxLen := ⟨_, rfl, nameN_max _⟩
  have HNM := Lib.hid hnm
  have HS := Lib.hid hs
  have bk := hs.k
  have ba := hs.a
  have bn := hs.n
  clear hf hg hF hs hnm
  by_cases h0 : s.k % 8 = 0
  · have e0 : (s.k % 8 == 0) = true := by simpa using h0
    obtain ⟨q, hq⟩ : ∃ q, canCreateF F s.n s.a = q := ⟨_, rfl⟩
    have HQ := Lib.hid hq
    by_cases hq0 : q = 0
    · have hsound : (stepE F s).sound := step_sound HF.out HS.out (fun _ => by rw [hq, hq0]) (fun h => by omega) (by omega)
      subst hq0
      have HSD := Lib.hid hsound
      clear h0 hq hsound
      go_enter Tryz.func56, Tryz.ntmps56
      have b0 := HH.out.g.fb.c0
      have b1 := HH.out.g.fb.c1
      have c0 := HH.out.g.gb.c0
      have c1 := HH.out.g.gb.c1
      have s0 := HH.out.sx.s0
      have s1 := HH.out.sx.s1
      have s2 := HH.out.sx.s2
      have s3 := HH.out.sx.s3
      have s4 := HH.out.sx.s4
      have s5 := HH.out.sx.s5
      go_wp2_with fail
      refine (rnames_r s.v nm _ HS.out.v HNM.out).mono ?_
      rintro e w1 ⟨rfl, hb⟩
      have HH := Lib.hid (HH.out.later hb)
      clear hb
      clear b0 b1 c0 c1 s0 s1 s2 s3 s4 s5
      have b0 := HH.out.g.fb.c0
      have b1 := HH.out.g.fb.c1
      have c0 := HH.out.g.gb.c0
      have c1 := HH.out.g.gb.c1
      have s0 := HH.out.sx.s0
      have s1 := HH.out.sx.s1
      have s2 := HH.out.sx.s2
      have s3 := HH.out.sx.s3
      have s4 := HH.out.sx.s4
      have s5 := HH.out.sx.s5
      go_wp2_with fail
      refine (tcreate_is F 0 _ s.n s.a _ HF.out.ok HF.out.short HH.out.g.fam HQ.out).mono ?_
      rintro e w2 ⟨rfl, hb⟩
      have HH := Lib.hid (HH.out.later hb)
      have hsound := HSD.out
      clear hb
      clear b0 b1 c0 c1 s0 s1 s2 s3 s4 s5
      have b0 := HH.out.g.fb.c0
      have b1 := HH.out.g.fb.c1
      have c0 := HH.out.g.gb.c0
      have c1 := HH.out.g.gb.c1
      have s0 := HH.out.sx.s0
      have s1 := HH.out.sx.s1
      have s2 := HH.out.sx.s2
      have s3 := HH.out.sx.s3
      have s4 := HH.out.sx.s4
      have s5 := HH.out.sx.s5
      go_wp2_with fail
      refine (apply37_is F _ s _ HF.out.ok HF.out.short HH.out.g.fam HS.out).mono ?_
      rintro e w5 ⟨fv, rfl, hg, hb⟩
      obtain ⟨ga, gc, gm, rfl⟩ := hg.form
      have HH := Lib.hid (HH.out.later hb)
      have HHF := Lib.hid (HH.out.putF hg)
      clear hb hg
      clear b0 b1 c0 c1 s0 s1 s2 s3 s4 s5
      have b0 := HH.out.g.fb.c0
      have b1 := HH.out.g.fb.c1
      have b2 := HH.out.g.fb.f0
      have b3 := HH.out.g.fb.f1
      have c0 := HHF.out.g.gb.c0
      have c1 := HHF.out.g.gb.c1
      have s0 := HHF.out.sx.s0
      have s1 := HHF.out.sx.s1
      have s2 := HHF.out.sx.s2
      have s3 := HHF.out.sx.s3
      have s4 := HHF.out.sx.s4
      have s5 := HHF.out.sx.s5
      go_wp2_with fail
      obtain ⟨G, L, x0, hcr⟩ : ∃ G L x0, stepF F s = (G, L, x0) := ⟨_, _, _, rfl⟩
      have HC := Lib.hid hcr
      have hse := ite_step hcr
      have hq := rapply_is F _ s _ HF.out.ok HHF.out.g.famr HS.out
      rw [HC.out] at hq
      refine hq.mono ?_
      rintro e w6 ⟨gv, sv, rfl, hg, hso, hb⟩
      obtain ⟨ya, yn, yc, rfl⟩ := hg.form
      obtain ⟨la, lc, rfl, _⟩ := hso.rd (by have := step_short F s; rw [hcr] at this; exact this)
      have hk := hb.onAlloc (.cells #[.int .i64 G.N, .slice ya yn yc] 45)
      have HH := Lib.hid (HHF.out.later hk)
      have HX := Lib.hid (Bx.new w6 _ rfl (.int .i64 G.N) (.slice ya yn yc) 45)
      have HG := Lib.hid (hg.keep ((Below.refl w6.heap.size w6).onAlloc (.cells #[.int .i64 G.N, .slice ya yn yc] 45)))
      have HW6 : Hid (w.heap.size + 1 + 1 + 1 + 1 < w6.heap.size) := Lib.hid (HHF.out.later hb).g.r2.lt
      have HKP := Lib.hid (stepE_keeps HF.out.ok HS.out)
      have HSO := Lib.hid hsound
      have hE : (x0 = 0 ∧ stepE F s = G) ∨ (x0 ≠ 0 ∧ stepE F s = F) := by
        by_cases h : x0 = 0
        · exact .inl ⟨h, by rw [hse, if_pos h]⟩
        · exact .inr ⟨h, by rw [hse, if_neg h]⟩
      clear hk hb hg hso hcr hse hq hsound b0 b1 b2 b3 c0 c1 s0 s1 s2 s3 s4 s5 HHF
      go_upto_region 16 with fail
      generalize w6.alloc (.cells #[.int .i64 G.N, .slice ya yn yc] 45) = W7 at *
      generalize w6.heap.size = X at *
      rcases hE with ⟨rfl, hE⟩ | ⟨hx0, hE⟩
      · rw [hE] at HH HKP HSO
        have HHG := Lib.hid (HH.out.putG HG.out)
        have c0 := HH.out.g.gb.c0
        have c1 := HH.out.g.gb.c1
        have c2 := HH.out.g.gb.f0
        have c3 := HH.out.g.gb.f1
        have x0 := HX.out.c0
        have x1 := HX.out.c1
        rw [hE]
        clear hE
        go_upto_region 18 with fail
        have HP := Lib.hid HHG.out.g
        clear c0 c1 c2 c3 x0 x1 HH
        have a0 := HP.out.fb.c0
        have a1 := HP.out.fb.c1
        have d0 := HP.out.gb.c0
        have d1 := HP.out.gb.c1
        have r0 := HP.out.r1.c0
        have r1 := HP.out.r1.c1
        have r2 := HP.out.r1.f0
        have r3 := HP.out.r1.f1
        have s0 := HP.out.r2.c0
        have s1 := HP.out.r2.c1
        have s2 := HP.out.r2.f0
        have s3 := HP.out.r2.f1
        have hoo := HP.out.o
        have m0 := (HP.out.gb.far (R := w.heap.size + 1 + 1 + 1) (by omega) (.slice ga G.N gc) (.map gm)).c0
        have m1 := (HP.out.gb.far (R := w.heap.size + 1 + 1 + 1) (by omega) (.slice ga G.N gc) (.map gm)).c1
        have m2 := (HP.out.r2.far (R := w.heap.size + 1 + 1 + 1) (by omega) (.slice ga G.N gc) (.map gm)).c0
        have m3 := (HP.out.r2.far (R := w.heap.size + 1 + 1 + 1) (by omega) (.slice ga G.N gc) (.map gm)).c1
        clear hoo
        go_region_law (fail)
        all_goals
          obtain ⟨z1, z2, z3, z4, z5⟩ := two_res HP.out.r1 HP.out.r2 HP.out.fam HP.out.famr HP.out.B (by have := HP.out.o; have := HP.out.le; omega)
          have HZ1 := Lib.hid (z1.keep (Below.refl _ _).drew)
          have HZ2 := Lib.hid (z2.keep (Below.refl _ _).drew)
          have HZ3 := Lib.hid z3.drew
          have j0 := z4.c0
          have j1 := z4.c1
          have j2 := z5.c0
          have j3 := z5.c1
          clear z1 z2 z3 z4 z5 a0 a1 d0 d1 r0 r1 r2 r3 s0 s1 s2 s3 m0 m1 m2 m3
          go_wp2_with fail
          refine bodyPost_ret (v := .tuple #[.agg #[.slice ga G.N gc, .map gm], .agg #[.int .i64 G.N, .slice ya yn yc], .bool true]) ?_ rfl ⟨G, _, _, rfl, HSO.out, HKP.out, HZ1.out, HZ2.out, HZ3.out⟩
          simp [results, Tryz.results56, go_sem, j0, j1, j2, j3]
      · have d0 : (x0 == 0) = false := by simpa using hx0
        rw [hE] at HH HKP HSO
        rw [hE]
        clear hE hx0
        go_upto_region 18 with fail
        have HP := Lib.hid HH.out.g
        have a0 := HP.out.fb.c0
        have a1 := HP.out.fb.c1
        have d0 := HP.out.gb.c0
        have d1 := HP.out.gb.c1
        have r0 := HP.out.r1.c0
        have r1 := HP.out.r1.c1
        have r2 := HP.out.r1.f0
        have r3 := HP.out.r1.f1
        have s0 := HP.out.r2.c0
        have s1 := HP.out.r2.c1
        have s2 := HP.out.r2.f0
        have s3 := HP.out.r2.f1
        have hoo := HP.out.o
        have m0 := (HP.out.gb.far (R := w.heap.size + 1 + 1 + 1) (by omega) (.slice ga F.N gc) (.map gm)).c0
        have m1 := (HP.out.gb.far (R := w.heap.size + 1 + 1 + 1) (by omega) (.slice ga F.N gc) (.map gm)).c1
        have m2 := (HP.out.r2.far (R := w.heap.size + 1 + 1 + 1) (by omega) (.slice ga F.N gc) (.map gm)).c0
        have m3 := (HP.out.r2.far (R := w.heap.size + 1 + 1 + 1) (by omega) (.slice ga F.N gc) (.map gm)).c1
        clear hoo
        go_region_law (fail)
        all_goals
          obtain ⟨z1, z2, z3, z4, z5⟩ := two_res HP.out.r1 HP.out.r2 HP.out.fam HP.out.famr HP.out.B (by have := HP.out.o; have := HP.out.le; omega)
          have HZ1 := Lib.hid (z1.keep (Below.refl _ _).drew)
          have HZ2 := Lib.hid (z2.keep (Below.refl _ _).drew)
          have HZ3 := Lib.hid z3.drew
          have j0 := z4.c0
          have j1 := z4.c1
          have j2 := z5.c0
          have j3 := z5.c1
          clear z1 z2 z3 z4 z5 a0 a1 d0 d1 r0 r1 r2 r3 s0 s1 s2 s3 m0 m1 m2 m3
          go_wp2_with fail
          refine bodyPost_ret (v := .tuple #[.agg #[.slice ga F.N gc, .map gm], .agg #[.int .i64 F.N, .slice ra rn rc], .bool true]) ?_ rfl ⟨F, _, _, rfl, HSO.out, HKP.out, HZ1.out, HZ2.out, HZ3.out⟩
          simp [results, Tryz.results56, go_sem, j0, j1, j2, j3]
    · have d9 : (q == 0) = false := by simpa using hq0
      clear h0 hq hq0
      go_enter Tryz.func56, Tryz.ntmps56
      have b0 := HH.out.g.fb.c0
      have b1 := HH.out.g.fb.c1
      have c0 := HH.out.g.gb.c0
      have c1 := HH.out.g.gb.c1
      have s0 := HH.out.sx.s0
      have s1 := HH.out.sx.s1
      have s2 := HH.out.sx.s2
      have s3 := HH.out.sx.s3
      have s4 := HH.out.sx.s4
      have s5 := HH.out.sx.s5
      go_wp2_with fail
      refine (rnames_r s.v nm _ HS.out.v HNM.out).mono ?_
      rintro e w1 ⟨rfl, hb⟩
      have HH := Lib.hid (HH.out.later hb)
      clear hb
      clear b0 b1 c0 c1 s0 s1 s2 s3 s4 s5
      have b0 := HH.out.g.fb.c0
      have b1 := HH.out.g.fb.c1
      have c0 := HH.out.g.gb.c0
      have c1 := HH.out.g.gb.c1
      have s0 := HH.out.sx.s0
      have s1 := HH.out.sx.s1
      have s2 := HH.out.sx.s2
      have s3 := HH.out.sx.s3
      have s4 := HH.out.sx.s4
      have s5 := HH.out.sx.s5
      go_wp2_with fail
      refine (tcreate_is F q _ s.n s.a _ HF.out.ok HF.out.short HH.out.g.fam HQ.out).mono ?_
      rintro e w2 ⟨rfl, hb⟩
      have HH := Lib.hid (HH.out.later hb)
      clear hb
      clear b0 b1 c0 c1 s0 s1 s2 s3 s4 s5
      go_upto_region 8 with fail
      have HP := Lib.hid HH.out.g
      have a0 := HP.out.fb.c0
      have a1 := HP.out.fb.c1
      have d0 := HP.out.gb.c0
      have d1 := HP.out.gb.c1
      have r0 := HP.out.r1.c0
      have r1 := HP.out.r1.c1
      have r2 := HP.out.r1.f0
      have r3 := HP.out.r1.f1
      have s0 := HP.out.r2.c0
      have s1 := HP.out.r2.c1
      have s2 := HP.out.r2.f0
      have s3 := HP.out.r2.f1
      have hoo := HP.out.o
      have m0 := (HP.out.gb.far (R := w.heap.size + 1 + 1 + 1) (by omega) (.slice fa F.N fc) (.map fm)).c0
      have m1 := (HP.out.gb.far (R := w.heap.size + 1 + 1 + 1) (by omega) (.slice fa F.N fc) (.map fm)).c1
      have m2 := (HP.out.r2.far (R := w.heap.size + 1 + 1 + 1) (by omega) (.slice fa F.N fc) (.map fm)).c0
      have m3 := (HP.out.r2.far (R := w.heap.size + 1 + 1 + 1) (by omega) (.slice fa F.N fc) (.map fm)).c1
      clear hoo
      go_region_law (fail)
      all_goals
        obtain ⟨z1, z2, z3, z4, z5⟩ := two_res HP.out.r1 HP.out.r2 HP.out.fam HP.out.famr HP.out.B (by have := HP.out.o; have := HP.out.le; omega)
        have HZ1 := Lib.hid (z1.keep (Below.refl _ _).drew)
        have HZ2 := Lib.hid (z2.keep (Below.refl _ _).drew)
        have HZ3 := Lib.hid z3.drew
        have j0 := z4.c0
        have j1 := z4.c1
        have j2 := z5.c0
        have j3 := z5.c1
        clear z1 z2 z3 z4 z5 a0 a1 d0 d1 r0 r1 r2 r3 s0 s1 s2 s3 m0 m1 m2 m3
        go_wp2_with fail
        refine bodyPost_ret (v := .tuple #[.agg #[.slice fa F.N fc, .map fm], .agg #[.int .i64 F.N, .slice ra rn rc], .bool true]) ?_ rfl ⟨F, _, _, rfl, HF.out, Keeps.refl HF.out.ok, HZ1.out, HZ2.out, HZ3.out⟩
        simp [results, Tryz.results56, go_sem, j0, j1, j2, j3]
  have e0 : (s.k % 8 == 0) = false := by simpa using h0
  by_cases h1 : s.k % 8 = 1
  · have e1 : (s.k % 8 == 1) = true := by simpa using h1
    obtain ⟨q, hq⟩ : ∃ q, canCloneF F nm = q := ⟨_, rfl⟩
    have HQ := Lib.hid hq
    by_cases hq0 : q = 0
    · have hsound : (stepE F s).sound := step_sound HF.out HS.out (fun h => by omega) (fun _ => by rw [HNM.out, hq, hq0]) (by omega)
      subst hq0
      have HSD := Lib.hid hsound
      clear h0 h1 hq hsound
      go_enter Tryz.func56, Tryz.ntmps56
      have b0 := HH.out.g.fb.c0
      have b1 := HH.out.g.fb.c1
      have c0 := HH.out.g.gb.c0
      have c1 := HH.out.g.gb.c1
      have s0 := HH.out.sx.s0
      have s1 := HH.out.sx.s1
      have s2 := HH.out.sx.s2
      have s3 := HH.out.sx.s3
      have s4 := HH.out.sx.s4
      have s5 := HH.out.sx.s5
      go_wp2_with fail
      refine (rnames_r s.v nm _ HS.out.v HNM.out).mono ?_
      rintro e w1 ⟨rfl, hb⟩
      have HH := Lib.hid (HH.out.later hb)
      clear hb
      clear b0 b1 c0 c1 s0 s1 s2 s3 s4 s5
      have b0 := HH.out.g.fb.c0
      have b1 := HH.out.g.fb.c1
      have c0 := HH.out.g.gb.c0
      have c1 := HH.out.g.gb.c1
      have s0 := HH.out.sx.s0
      have s1 := HH.out.sx.s1
      have s2 := HH.out.sx.s2
      have s3 := HH.out.sx.s3
      have s4 := HH.out.sx.s4
      have s5 := HH.out.sx.s5
      go_wp2_with fail
      refine (tclone_is F 0 _ nm _ HF.out.ok HF.out.short HH.out.g.fam hnl HQ.out).mono ?_
      rintro e w2 ⟨rfl, hb⟩
      have HH := Lib.hid (HH.out.later hb)
      have hsound := HSD.out
      clear hb
      clear b0 b1 c0 c1 s0 s1 s2 s3 s4 s5
      have b0 := HH.out.g.fb.c0
      have b1 := HH.out.g.fb.c1
      have c0 := HH.out.g.gb.c0
      have c1 := HH.out.g.gb.c1
      have s0 := HH.out.sx.s0
      have s1 := HH.out.sx.s1
      have s2 := HH.out.sx.s2
      have s3 := HH.out.sx.s3
      have s4 := HH.out.sx.s4
      have s5 := HH.out.sx.s5
      go_wp2_with fail
      refine (apply37_is F _ s _ HF.out.ok HF.out.short HH.out.g.fam HS.out).mono ?_
      rintro e w5 ⟨fv, rfl, hg, hb⟩
      obtain ⟨ga, gc, gm, rfl⟩ := hg.form
      have HH := Lib.hid (HH.out.later hb)
      have HHF := Lib.hid (HH.out.putF hg)
      clear hb hg
      clear b0 b1 c0 c1 s0 s1 s2 s3 s4 s5
      have b0 := HH.out.g.fb.c0
      have b1 := HH.out.g.fb.c1
      have b2 := HH.out.g.fb.f0
      have b3 := HH.out.g.fb.f1
      have c0 := HHF.out.g.gb.c0
      have c1 := HHF.out.g.gb.c1
      have s0 := HHF.out.sx.s0
      have s1 := HHF.out.sx.s1
      have s2 := HHF.out.sx.s2
      have s3 := HHF.out.sx.s3
      have s4 := HHF.out.sx.s4
      have s5 := HHF.out.sx.s5
      go_wp2_with fail
      obtain ⟨G, L, x0, hcr⟩ : ∃ G L x0, stepF F s = (G, L, x0) := ⟨_, _, _, rfl⟩
      have HC := Lib.hid hcr
      have hse := ite_step hcr
      have hq := rapply_is F _ s _ HF.out.ok HHF.out.g.famr HS.out
      rw [HC.out] at hq
      refine hq.mono ?_
      rintro e w6 ⟨gv, sv, rfl, hg, hso, hb⟩
      obtain ⟨ya, yn, yc, rfl⟩ := hg.form
      obtain ⟨la, lc, rfl, _⟩ := hso.rd (by have := step_short F s; rw [hcr] at this; exact this)
      have hk := hb.onAlloc (.cells #[.int .i64 G.N, .slice ya yn yc] 45)
      have HH := Lib.hid (HHF.out.later hk)
      have HX := Lib.hid (Bx.new w6 _ rfl (.int .i64 G.N) (.slice ya yn yc) 45)
      have HG := Lib.hid (hg.keep ((Below.refl w6.heap.size w6).onAlloc (.cells #[.int .i64 G.N, .slice ya yn yc] 45)))
      have HW6 : Hid (w.heap.size + 1 + 1 + 1 + 1 < w6.heap.size) := Lib.hid (HHF.out.later hb).g.r2.lt
      have HKP := Lib.hid (stepE_keeps HF.out.ok HS.out)
      have HSO := Lib.hid hsound
      have hE : (x0 = 0 ∧ stepE F s = G) ∨ (x0 ≠ 0 ∧ stepE F s = F) := by
        by_cases h : x0 = 0
        · exact .inl ⟨h, by rw [hse, if_pos h]⟩
        · exact .inr ⟨h, by rw [hse, if_neg h]⟩
      clear hk hb hg hso hcr hse hq hsound b0 b1 b2 b3 c0 c1 s0 s1 s2 s3 s4 s5 HHF
      go_upto_region 16 with fail
      generalize w6.alloc (.cells #[.int .i64 G.N, .slice ya yn yc] 45) = W7 at *
      generalize w6.heap.size = X at *
      rcases hE with ⟨rfl, hE⟩ | ⟨hx0, hE⟩
      · rw [hE] at HH HKP HSO
        have HHG := Lib.hid (HH.out.putG HG.out)
        have c0 := HH.out.g.gb.c0
        have c1 := HH.out.g.gb.c1
        have c2 := HH.out.g.gb.f0
        have c3 := HH.out.g.gb.f1
        have x0 := HX.out.c0
        have x1 := HX.out.c1
        rw [hE]
        clear hE
        go_upto_region 18 with fail
        have HP := Lib.hid HHG.out.g
        clear c0 c1 c2 c3 x0 x1 HH
        have a0 := HP.out.fb.c0
        have a1 := HP.out.fb.c1
        have d0 := HP.out.gb.c0
        have d1 := HP.out.gb.c1
        have r0 := HP.out.r1.c0
        have r1 := HP.out.r1.c1
        have r2 := HP.out.r1.f0
        have r3 := HP.out.r1.f1
        have s0 := HP.out.r2.c0
        have s1 := HP.out.r2.c1
        have s2 := HP.out.r2.f0
        have s3 := HP.out.r2.f1
        have hoo := HP.out.o
        have m0 := (HP.out.gb.far (R := w.heap.size + 1 + 1 + 1) (by omega) (.slice ga G.N gc) (.map gm)).c0
        have m1 := (HP.out.gb.far (R := w.heap.size + 1 + 1 + 1) (by omega) (.slice ga G.N gc) (.map gm)).c1
        have m2 := (HP.out.r2.far (R := w.heap.size + 1 + 1 + 1) (by omega) (.slice ga G.N gc) (.map gm)).c0
        have m3 := (HP.out.r2.far (R := w.heap.size + 1 + 1 + 1) (by omega) (.slice ga G.N gc) (.map gm)).c1
        clear hoo
        go_region_law (fail)
        all_goals
          obtain ⟨z1, z2, z3, z4, z5⟩ := two_res HP.out.r1 HP.out.r2 HP.out.fam HP.out.famr HP.out.B (by have := HP.out.o; have := HP.out.le; omega)
          have HZ1 := Lib.hid (z1.keep (Below.refl _ _).drew)
          have HZ2 := Lib.hid (z2.keep (Below.refl _ _).drew)
          have HZ3 := Lib.hid z3.drew
          have j0 := z4.c0
          have j1 := z4.c1
          have j2 := z5.c0
          have j3 := z5.c1
          clear z1 z2 z3 z4 z5 a0 a1 d0 d1 r0 r1 r2 r3 s0 s1 s2 s3 m0 m1 m2 m3
          go_wp2_with fail
          refine bodyPost_ret (v := .tuple #[.agg #[.slice ga G.N gc, .map gm], .agg #[.int .i64 G.N, .slice ya yn yc], .bool true]) ?_ rfl ⟨G, _, _, rfl, HSO.out, HKP.out, HZ1.out, HZ2.out, HZ3.out⟩
          simp [results, Tryz.results56, go_sem, j0, j1, j2, j3]
      · have d0 : (x0 == 0) = false := by simpa using hx0
        rw [hE] at HH HKP HSO
        rw [hE]
        clear hE hx0
        go_upto_region 18 with fail
        have HP := Lib.hid HH.out.g
        have a0 := HP.out.fb.c0
        have a1 := HP.out.fb.c1
        have d0 := HP.out.gb.c0
        have d1 := HP.out.gb.c1
        have r0 := HP.out.r1.c0
        have r1 := HP.out.r1.c1
        have r2 := HP.out.r1.f0
        have r3 := HP.out.r1.f1
        have s0 := HP.out.r2.c0
        have s1 := HP.out.r2.c1
        have s2 := HP.out.r2.f0
        have s3 := HP.out.r2.f1
        have hoo := HP.out.o
        have m0 := (HP.out.gb.far (R := w.heap.size + 1 + 1 + 1) (by omega) (.slice ga F.N gc) (.map gm)).c0
        have m1 := (HP.out.gb.far (R := w.heap.size + 1 + 1 + 1) (by omega) (.slice ga F.N gc) (.map gm)).c1
        have m2 := (HP.out.r2.far (R := w.heap.size + 1 + 1 + 1) (by omega) (.slice ga F.N gc) (.map gm)).c0
        have m3 := (HP.out.r2.far (R := w.heap.size + 1 + 1 + 1) (by omega) (.slice ga F.N gc) (.map gm)).c1
        clear hoo
        go_region_law (fail)
        all_goals
          obtain ⟨z1, z2, z3, z4, z5⟩ := two_res HP.out.r1 HP.out.r2 HP.out.fam HP.out.famr HP.out.B (by have := HP.out.o; have := HP.out.le; omega)
          have HZ1 := Lib.hid (z1.keep (Below.refl _ _).drew)
          have HZ2 := Lib.hid (z2.keep (Below.refl _ _).drew)
          have HZ3 := Lib.hid z3.drew
          have j0 := z4.c0
          have j1 := z4.c1
          have j2 := z5.c0
          have j3 := z5.c1
          clear z1 z2 z3 z4 z5 a0 a1 d0 d1 r0 r1 r2 r3 s0 s1 s2 s3 m0 m1 m2 m3
          go_wp2_with fail
          refine bodyPost_ret (v := .tuple #[.agg #[.slice ga F.N gc, .map gm], .agg #[.int .i64 F.N, .slice ra rn rc], .bool true]) ?_ rfl ⟨F, _, _, rfl, HSO.out, HKP.out, HZ1.out, HZ2.out, HZ3.out⟩
          simp [results, Tryz.results56, go_sem, j0, j1, j2, j3]
    · have d9 : (q == 0) = false := by simpa using hq0
      clear h0 h1 hq hq0
      go_enter Tryz.func56, Tryz.ntmps56
      have b0 := HH.out.g.fb.c0
      have b1 := HH.out.g.fb.c1
      have c0 := HH.out.g.gb.c0
      have c1 := HH.out.g.gb.c1
      have s0 := HH.out.sx.s0
      have s1 := HH.out.sx.s1
      have s2 := HH.out.sx.s2
      have s3 := HH.out.sx.s3
      have s4 := HH.out.sx.s4
      have s5 := HH.out.sx.s5
      go_wp2_with fail
      refine (rnames_r s.v nm _ HS.out.v HNM.out).mono ?_
      rintro e w1 ⟨rfl, hb⟩
      have HH := Lib.hid (HH.out.later hb)
      clear hb
      clear b0 b1 c0 c1 s0 s1 s2 s3 s4 s5
      have b0 := HH.out.g.fb.c0
      have b1 := HH.out.g.fb.c1
      have c0 := HH.out.g.gb.c0
      have c1 := HH.out.g.gb.c1
      have s0 := HH.out.sx.s0
      have s1 := HH.out.sx.s1
      have s2 := HH.out.sx.s2
      have s3 := HH.out.sx.s3
      have s4 := HH.out.sx.s4
      have s5 := HH.out.sx.s5
      go_wp2_with fail
      refine (tclone_is F q _ nm _ HF.out.ok HF.out.short HH.out.g.fam hnl HQ.out).mono ?_
      rintro e w2 ⟨rfl, hb⟩
      have HH := Lib.hid (HH.out.later hb)
      clear hb
      clear b0 b1 c0 c1 s0 s1 s2 s3 s4 s5
      go_upto_region 11 with fail
      have HP := Lib.hid HH.out.g
      have a0 := HP.out.fb.c0
      have a1 := HP.out.fb.c1
      have d0 := HP.out.gb.c0
      have d1 := HP.out.gb.c1
      have r0 := HP.out.r1.c0
      have r1 := HP.out.r1.c1
      have r2 := HP.out.r1.f0
      have r3 := HP.out.r1.f1
      have s0 := HP.out.r2.c0
      have s1 := HP.out.r2.c1
      have s2 := HP.out.r2.f0
      have s3 := HP.out.r2.f1
      have hoo := HP.out.o
      have m0 := (HP.out.gb.far (R := w.heap.size + 1 + 1 + 1) (by omega) (.slice fa F.N fc) (.map fm)).c0
      have m1 := (HP.out.gb.far (R := w.heap.size + 1 + 1 + 1) (by omega) (.slice fa F.N fc) (.map fm)).c1
      have m2 := (HP.out.r2.far (R := w.heap.size + 1 + 1 + 1) (by omega) (.slice fa F.N fc) (.map fm)).c0
      have m3 := (HP.out.r2.far (R := w.heap.size + 1 + 1 + 1) (by omega) (.slice fa F.N fc) (.map fm)).c1
      clear hoo
      go_region_law (fail)
      all_goals
        obtain ⟨z1, z2, z3, z4, z5⟩ := two_res HP.out.r1 HP.out.r2 HP.out.fam HP.out.famr HP.out.B (by have := HP.out.o; have := HP.out.le; omega)
        have HZ1 := Lib.hid (z1.keep (Below.refl _ _).drew)
        have HZ2 := Lib.hid (z2.keep (Below.refl _ _).drew)
        have HZ3 := Lib.hid z3.drew
        have j0 := z4.c0
        have j1 := z4.c1
        have j2 := z5.c0
        have j3 := z5.c1
        clear z1 z2 z3 z4 z5 a0 a1 d0 d1 r0 r1 r2 r3 s0 s1 s2 s3 m0 m1 m2 m3
        go_wp2_with fail
        refine bodyPost_ret (v := .tuple #[.agg #[.slice fa F.N fc, .map fm], .agg #[.int .i64 F.N, .slice ra rn rc], .bool true]) ?_ rfl ⟨F, _, _, rfl, HF.out, Keeps.refl HF.out.ok, HZ1.out, HZ2.out, HZ3.out⟩
        simp [results, Tryz.results56, go_sem, j0, j1, j2, j3]
  have e1 : (s.k % 8 == 1) = false := by simpa using h1
  by_cases h2 : s.k % 8 = 2
  · have e2 : (s.k % 8 == 2) = true := by simpa using h2
    have HSD : Hid (stepE F s).sound := Lib.hid (step_sound HF.out HS.out (fun h => by omega) (fun h => by omega) (by omega))
    clear h0 h1 h2
    go_enter Tryz.func56, Tryz.ntmps56
    have b0 := HH.out.g.fb.c0
    have b1 := HH.out.g.fb.c1
    have c0 := HH.out.g.gb.c0
    have c1 := HH.out.g.gb.c1
    have s0 := HH.out.sx.s0
    have s1 := HH.out.sx.s1
    have s2 := HH.out.sx.s2
    have s3 := HH.out.sx.s3
    have s4 := HH.out.sx.s4
    have s5 := HH.out.sx.s5
    go_wp2_with fail
    refine (rnames_r s.v nm _ HS.out.v HNM.out).mono ?_
    rintro e w1 ⟨rfl, hb⟩
    have HH := Lib.hid (HH.out.later hb)
    clear hb
    clear b0 b1 c0 c1 s0 s1 s2 s3 s4 s5
    have b0 := HH.out.g.fb.c0
    have b1 := HH.out.g.fb.c1
    have c0 := HH.out.g.gb.c0
    have c1 := HH.out.g.gb.c1
    have s0 := HH.out.sx.s0
    have s1 := HH.out.sx.s1
    have s2 := HH.out.sx.s2
    have s3 := HH.out.sx.s3
    have s4 := HH.out.sx.s4
    have s5 := HH.out.sx.s5
    have hsound := HSD.out
    clear b0 b1 c0 c1 s0 s1 s2 s3 s4 s5
    have b0 := HH.out.g.fb.c0
    have b1 := HH.out.g.fb.c1
    have c0 := HH.out.g.gb.c0
    have c1 := HH.out.g.gb.c1
    have s0 := HH.out.sx.s0
    have s1 := HH.out.sx.s1
    have s2 := HH.out.sx.s2
    have s3 := HH.out.sx.s3
    have s4 := HH.out.sx.s4
    have s5 := HH.out.sx.s5
    go_wp2_with fail
    refine (apply37_is F _ s _ HF.out.ok HF.out.short HH.out.g.fam HS.out).mono ?_
    rintro e w5 ⟨fv, rfl, hg, hb⟩
    obtain ⟨ga, gc, gm, rfl⟩ := hg.form
    have HH := Lib.hid (HH.out.later hb)
    have HHF := Lib.hid (HH.out.putF hg)
    clear hb hg
    clear b0 b1 c0 c1 s0 s1 s2 s3 s4 s5
    have b0 := HH.out.g.fb.c0
    have b1 := HH.out.g.fb.c1
    have b2 := HH.out.g.fb.f0
    have b3 := HH.out.g.fb.f1
    have c0 := HHF.out.g.gb.c0
    have c1 := HHF.out.g.gb.c1
    have s0 := HHF.out.sx.s0
    have s1 := HHF.out.sx.s1
    have s2 := HHF.out.sx.s2
    have s3 := HHF.out.sx.s3
    have s4 := HHF.out.sx.s4
    have s5 := HHF.out.sx.s5
    go_wp2_with fail
    obtain ⟨G, L, x0, hcr⟩ : ∃ G L x0, stepF F s = (G, L, x0) := ⟨_, _, _, rfl⟩
    have HC := Lib.hid hcr
    have hse := ite_step hcr
    have hq := rapply_is F _ s _ HF.out.ok HHF.out.g.famr HS.out
    rw [HC.out] at hq
    refine hq.mono ?_
    rintro e w6 ⟨gv, sv, rfl, hg, hso, hb⟩
    obtain ⟨ya, yn, yc, rfl⟩ := hg.form
    obtain ⟨la, lc, rfl, _⟩ := hso.rd (by have := step_short F s; rw [hcr] at this; exact this)
    have hk := hb.onAlloc (.cells #[.int .i64 G.N, .slice ya yn yc] 45)
    have HH := Lib.hid (HHF.out.later hk)
    have HX := Lib.hid (Bx.new w6 _ rfl (.int .i64 G.N) (.slice ya yn yc) 45)
    have HG := Lib.hid (hg.keep ((Below.refl w6.heap.size w6).onAlloc (.cells #[.int .i64 G.N, .slice ya yn yc] 45)))
    have HW6 : Hid (w.heap.size + 1 + 1 + 1 + 1 < w6.heap.size) := Lib.hid (HHF.out.later hb).g.r2.lt
    have HKP := Lib.hid (stepE_keeps HF.out.ok HS.out)
    have HSO := Lib.hid hsound
    have hE : (x0 = 0 ∧ stepE F s = G) ∨ (x0 ≠ 0 ∧ stepE F s = F) := by
      by_cases h : x0 = 0
      · exact .inl ⟨h, by rw [hse, if_pos h]⟩
      · exact .inr ⟨h, by rw [hse, if_neg h]⟩
    clear hk hb hg hso hcr hse hq hsound b0 b1 b2 b3 c0 c1 s0 s1 s2 s3 s4 s5 HHF
    go_upto_region 16 with fail
    generalize w6.alloc (.cells #[.int .i64 G.N, .slice ya yn yc] 45) = W7 at *
    generalize w6.heap.size = X at *
    rcases hE with ⟨rfl, hE⟩ | ⟨hx0, hE⟩
    · rw [hE] at HH HKP HSO
      have HHG := Lib.hid (HH.out.putG HG.out)
      have c0 := HH.out.g.gb.c0
      have c1 := HH.out.g.gb.c1
      have c2 := HH.out.g.gb.f0
      have c3 := HH.out.g.gb.f1
      have x0 := HX.out.c0
      have x1 := HX.out.c1
      rw [hE]
      clear hE
      go_upto_region 18 with fail
      have HP := Lib.hid HHG.out.g
      clear c0 c1 c2 c3 x0 x1 HH
      have a0 := HP.out.fb.c0
      have a1 := HP.out.fb.c1
      have d0 := HP.out.gb.c0
      have d1 := HP.out.gb.c1
      have r0 := HP.out.r1.c0
      have r1 := HP.out.r1.c1
      have r2 := HP.out.r1.f0
      have r3 := HP.out.r1.f1
      have s0 := HP.out.r2.c0
      have s1 := HP.out.r2.c1
      have s2 := HP.out.r2.f0
      have s3 := HP.out.r2.f1
      have hoo := HP.out.o
      have m0 := (HP.out.gb.far (R := w.heap.size + 1 + 1 + 1) (by omega) (.slice ga G.N gc) (.map gm)).c0
      have m1 := (HP.out.gb.far (R := w.heap.size + 1 + 1 + 1) (by omega) (.slice ga G.N gc) (.map gm)).c1
      have m2 := (HP.out.r2.far (R := w.heap.size + 1 + 1 + 1) (by omega) (.slice ga G.N gc) (.map gm)).c0
      have m3 := (HP.out.r2.far (R := w.heap.size + 1 + 1 + 1) (by omega) (.slice ga G.N gc) (.map gm)).c1
      clear hoo
      go_region_law (fail)
      all_goals
        obtain ⟨z1, z2, z3, z4, z5⟩ := two_res HP.out.r1 HP.out.r2 HP.out.fam HP.out.famr HP.out.B (by have := HP.out.o; have := HP.out.le; omega)
        have HZ1 := Lib.hid (z1.keep (Below.refl _ _).drew)
        have HZ2 := Lib.hid (z2.keep (Below.refl _ _).drew)
        have HZ3 := Lib.hid z3.drew
        have j0 := z4.c0
        have j1 := z4.c1
        have j2 := z5.c0
        have j3 := z5.c1
        clear z1 z2 z3 z4 z5 a0 a1 d0 d1 r0 r1 r2 r3 s0 s1 s2 s3 m0 m1 m2 m3
        go_wp2_with fail
        refine bodyPost_ret (v := .tuple #[.agg #[.slice ga G.N gc, .map gm], .agg #[.int .i64 G.N, .slice ya yn yc], .bool true]) ?_ rfl ⟨G, _, _, rfl, HSO.out, HKP.out, HZ1.out, HZ2.out, HZ3.out⟩
        simp [results, Tryz.results56, go_sem, j0, j1, j2, j3]
    · have d0 : (x0 == 0) = false := by simpa using hx0
      rw [hE] at HH HKP HSO
      rw [hE]
      clear hE hx0
      go_upto_region 18 with fail
      have HP := Lib.hid HH.out.g
      have a0 := HP.out.fb.c0
      have a1 := HP.out.fb.c1
      have d0 := HP.out.gb.c0
      have d1 := HP.out.gb.c1
      have r0 := HP.out.r1.c0
      have r1 := HP.out.r1.c1
      have r2 := HP.out.r1.f0
      have r3 := HP.out.r1.f1
      have s0 := HP.out.r2.c0
      have s1 := HP.out.r2.c1
      have s2 := HP.out.r2.f0
      have s3 := HP.out.r2.f1
      have hoo := HP.out.o
      have m0 := (HP.out.gb.far (R := w.heap.size + 1 + 1 + 1) (by omega) (.slice ga F.N gc) (.map gm)).c0
      have m1 := (HP.out.gb.far (R := w.heap.size + 1 + 1 + 1) (by omega) (.slice ga F.N gc) (.map gm)).c1
      have m2 := (HP.out.r2.far (R := w.heap.size + 1 + 1 + 1) (by omega) (.slice ga F.N gc) (.map gm)).c0
      have m3 := (HP.out.r2.far (R := w.heap.size + 1 + 1 + 1) (by omega) (.slice ga F.N gc) (.map gm)).c1
      clear hoo
      go_region_law (fail)
      all_goals
        obtain ⟨z1, z2, z3, z4, z5⟩ := two_res HP.out.r1 HP.out.r2 HP.out.fam HP.out.famr HP.out.B (by have := HP.out.o; have := HP.out.le; omega)
        have HZ1 := Lib.hid (z1.keep (Below.refl _ _).drew)
        have HZ2 := Lib.hid (z2.keep (Below.refl _ _).drew)
        have HZ3 := Lib.hid z3.drew
        have j0 := z4.c0
        have j1 := z4.c1
        have j2 := z5.c0
        have j3 := z5.c1
        clear z1 z2 z3 z4 z5 a0 a1 d0 d1 r0 r1 r2 r3 s0 s1 s2 s3 m0 m1 m2 m3
        go_wp2_with fail
        refine bodyPost_ret (v := .tuple #[.agg #[.slice ga F.N gc, .map gm], .agg #[.int .i64 F.N, .slice ra rn rc], .bool true]) ?_ rfl ⟨F, _, _, rfl, HSO.out, HKP.out, HZ1.out, HZ2.out, HZ3.out⟩
        simp [results, Tryz.results56, go_sem, j0, j1, j2, j3]
  have e2 : (s.k % 8 == 2) = false := by simpa using h2
  by_cases h3 : s.k % 8 = 3
  · have e3 : (s.k % 8 == 3) = true := by simpa using h3
    have HSD : Hid (stepE F s).sound := Lib.hid (step_sound HF.out HS.out (fun h => by omega) (fun h => by omega) (by omega))
    clear h0 h1 h2 h3
    go_enter Tryz.func56, Tryz.ntmps56
    have b0 := HH.out.g.fb.c0
    have b1 := HH.out.g.fb.c1
    have c0 := HH.out.g.gb.c0
    have c1 := HH.out.g.gb.c1
    have s0 := HH.out.sx.s0
    have s1 := HH.out.sx.s1
    have s2 := HH.out.sx.s2
    have s3 := HH.out.sx.s3
    have s4 := HH.out.sx.s4
    have s5 := HH.out.sx.s5
    go_wp2_with fail
    refine (rnames_r s.v nm _ HS.out.v HNM.out).mono ?_
    rintro e w1 ⟨rfl, hb⟩
    have HH := Lib.hid (HH.out.later hb)
    clear hb
    clear b0 b1 c0 c1 s0 s1 s2 s3 s4 s5
    have b0 := HH.out.g.fb.c0
    have b1 := HH.out.g.fb.c1
    have c0 := HH.out.g.gb.c0
    have c1 := HH.out.g.gb.c1
    have s0 := HH.out.sx.s0
    have s1 := HH.out.sx.s1
    have s2 := HH.out.sx.s2
    have s3 := HH.out.sx.s3
    have s4 := HH.out.sx.s4
    have s5 := HH.out.sx.s5
    have hsound := HSD.out
    clear b0 b1 c0 c1 s0 s1 s2 s3 s4 s5
    have b0 := HH.out.g.fb.c0
    have b1 := HH.out.g.fb.c1
    have c0 := HH.out.g.gb.c0
    have c1 := HH.out.g.gb.c1
    have s0 := HH.out.sx.s0
    have s1 := HH.out.sx.s1
    have s2 := HH.out.sx.s2
    have s3 := HH.out.sx.s3
    have s4 := HH.out.sx.s4
    have s5 := HH.out.sx.s5
    go_wp2_with fail
    refine (apply37_is F _ s _ HF.out.ok HF.out.short HH.out.g.fam HS.out).mono ?_
    rintro e w5 ⟨fv, rfl, hg, hb⟩
    obtain ⟨ga, gc, gm, rfl⟩ := hg.form
    have HH := Lib.hid (HH.out.later hb)
    have HHF := Lib.hid (HH.out.putF hg)
    clear hb hg
    clear b0 b1 c0 c1 s0 s1 s2 s3 s4 s5
    have b0 := HH.out.g.fb.c0
    have b1 := HH.out.g.fb.c1
    have b2 := HH.out.g.fb.f0
    have b3 := HH.out.g.fb.f1
    have c0 := HHF.out.g.gb.c0
    have c1 := HHF.out.g.gb.c1
    have s0 := HHF.out.sx.s0
    have s1 := HHF.out.sx.s1
    have s2 := HHF.out.sx.s2
    have s3 := HHF.out.sx.s3
    have s4 := HHF.out.sx.s4
    have s5 := HHF.out.sx.s5
    go_wp2_with fail
    obtain ⟨G, L, x0, hcr⟩ : ∃ G L x0, stepF F s = (G, L, x0) := ⟨_, _, _, rfl⟩
    have HC := Lib.hid hcr
    have hse := ite_step hcr
    have hq := rapply_is F _ s _ HF.out.ok HHF.out.g.famr HS.out
    rw [HC.out] at hq
    refine hq.mono ?_
    rintro e w6 ⟨gv, sv, rfl, hg, hso, hb⟩
    obtain ⟨ya, yn, yc, rfl⟩ := hg.form
    obtain ⟨la, lc, rfl, _⟩ := hso.rd (by have := step_short F s; rw [hcr] at this; exact this)
    have hk := hb.onAlloc (.cells #[.int .i64 G.N, .slice ya yn yc] 45)
    have HH := Lib.hid (HHF.out.later hk)
    have HX := Lib.hid (Bx.new w6 _ rfl (.int .i64 G.N) (.slice ya yn yc) 45)
    have HG := Lib.hid (hg.keep ((Below.refl w6.heap.size w6).onAlloc (.cells #[.int .i64 G.N, .slice ya yn yc] 45)))
    have HW6 : Hid (w.heap.size + 1 + 1 + 1 + 1 < w6.heap.size) := Lib.hid (HHF.out.later hb).g.r2.lt
    have HKP := Lib.hid (stepE_keeps HF.out.ok HS.out)
    have HSO := Lib.hid hsound
    have hE : (x0 = 0 ∧ stepE F s = G) ∨ (x0 ≠ 0 ∧ stepE F s = F) := by
      by_cases h : x0 = 0
      · exact .inl ⟨h, by rw [hse, if_pos h]⟩
      · exact .inr ⟨h, by rw [hse, if_neg h]⟩
    clear hk hb hg hso hcr hse hq hsound b0 b1 b2 b3 c0 c1 s0 s1 s2 s3 s4 s5 HHF
    go_upto_region 16 with fail
    generalize w6.alloc (.cells #[.int .i64 G.N, .slice ya yn yc] 45) = W7 at *
    generalize w6.heap.size = X at *
    rcases hE with ⟨rfl, hE⟩ | ⟨hx0, hE⟩
    · rw [hE] at HH HKP HSO
      have HHG := Lib.hid (HH.out.putG HG.out)
      have c0 := HH.out.g.gb.c0
      have c1 := HH.out.g.gb.c1
      have c2 := HH.out.g.gb.f0
      have c3 := HH.out.g.gb.f1
      have x0 := HX.out.c0
      have x1 := HX.out.c1
      rw [hE]
      clear hE
      go_upto_region 18 with fail
      have HP := Lib.hid HHG.out.g
      clear c0 c1 c2 c3 x0 x1 HH
      have a0 := HP.out.fb.c0
      have a1 := HP.out.fb.c1
      have d0 := HP.out.gb.c0
      have d1 := HP.out.gb.c1
      have r0 := HP.out.r1.c0
      have r1 := HP.out.r1.c1
      have r2 := HP.out.r1.f0
      have r3 := HP.out.r1.f1
      have s0 := HP.out.r2.c0
      have s1 := HP.out.r2.c1
      have s2 := HP.out.r2.f0
      have s3 := HP.out.r2.f1
      have hoo := HP.out.o
      have m0 := (HP.out.gb.far (R := w.heap.size + 1 + 1 + 1) (by omega) (.slice ga G.N gc) (.map gm)).c0
      have m1 := (HP.out.gb.far (R := w.heap.size + 1 + 1 + 1) (by omega) (.slice ga G.N gc) (.map gm)).c1
      have m2 := (HP.out.r2.far (R := w.heap.size + 1 + 1 + 1) (by omega) (.slice ga G.N gc) (.map gm)).c0
      have m3 := (HP.out.r2.far (R := w.heap.size + 1 + 1 + 1) (by omega) (.slice ga G.N gc) (.map gm)).c1
      clear hoo
      go_region_law (fail)
      all_goals
        obtain ⟨z1, z2, z3, z4, z5⟩ := two_res HP.out.r1 HP.out.r2 HP.out.fam HP.out.famr HP.out.B (by have := HP.out.o; have := HP.out.le; omega)
        have HZ1 := Lib.hid (z1.keep (Below.refl _ _).drew)
        have HZ2 := Lib.hid (z2.keep (Below.refl _ _).drew)
        have HZ3 := Lib.hid z3.drew
        have j0 := z4.c0
        have j1 := z4.c1
        have j2 := z5.c0
        have j3 := z5.c1
        clear z1 z2 z3 z4 z5 a0 a1 d0 d1 r0 r1 r2 r3 s0 s1 s2 s3 m0 m1 m2 m3
        go_wp2_with fail
        refine bodyPost_ret (v := .tuple #[.agg #[.slice ga G.N gc, .map gm], .agg #[.int .i64 G.N, .slice ya yn yc], .bool true]) ?_ rfl ⟨G, _, _, rfl, HSO.out, HKP.out, HZ1.out, HZ2.out, HZ3.out⟩
        simp [results, Tryz.results56, go_sem, j0, j1, j2, j3]
    · have d0 : (x0 == 0) = false := by simpa using hx0
      rw [hE] at HH HKP HSO
      rw [hE]
      clear hE hx0
      go_upto_region 18 with fail
      have HP := Lib.hid HH.out.g
      have a0 := HP.out.fb.c0
      have a1 := HP.out.fb.c1
      have d0 := HP.out.gb.c0
      have d1 := HP.out.gb.c1
      have r0 := HP.out.r1.c0
      have r1 := HP.out.r1.c1
      have r2 := HP.out.r1.f0
      have r3 := HP.out.r1.f1
      have s0 := HP.out.r2.c0
      have s1 := HP.out.r2.c1
      have s2 := HP.out.r2.f0
      have s3 := HP.out.r2.f1
      have hoo := HP.out.o
      have m0 := (HP.out.gb.far (R := w.heap.size + 1 + 1 + 1) (by omega) (.slice ga F.N gc) (.map gm)).c0
      have m1 := (HP.out.gb.far (R := w.heap.size + 1 + 1 + 1) (by omega) (.slice ga F.N gc) (.map gm)).c1
      have m2 := (HP.out.r2.far (R := w.heap.size + 1 + 1 + 1) (by omega) (.slice ga F.N gc) (.map gm)).c0
      have m3 := (HP.out.r2.far (R := w.heap.size + 1 + 1 + 1) (by omega) (.slice ga F.N gc) (.map gm)).c1
      clear hoo
      go_region_law (fail)
      all_goals
        obtain ⟨z1, z2, z3, z4, z5⟩ := two_res HP.out.r1 HP.out.r2 HP.out.fam HP.out.famr HP.out.B (by have := HP.out.o; have := HP.out.le; omega)
        have HZ1 := Lib.hid (z1.keep (Below.refl _ _).drew)
        have HZ2 := Lib.hid (z2.keep (Below.refl _ _).drew)
        have HZ3 := Lib.hid z3.drew
        have j0 := z4.c0
        have j1 := z4.c1
        have j2 := z5.c0
        have j3 := z5.c1
        clear z1 z2 z3 z4 z5 a0 a1 d0 d1 r0 r1 r2 r3 s0 s1 s2 s3 m0 m1 m2 m3
        go_wp2_with fail
        refine bodyPost_ret (v := .tuple #[.agg #[.slice ga F.N gc, .map gm], .agg #[.int .i64 F.N, .slice ra rn rc], .bool true]) ?_ rfl ⟨F, _, _, rfl, HSO.out, HKP.out, HZ1.out, HZ2.out, HZ3.out⟩
        simp [results, Tryz.results56, go_sem, j0, j1, j2, j3]
  have e3 : (s.k % 8 == 3) = false := by simpa using h3
  clear h0 h1 h2 h3
  obtain ⟨q, hq⟩ : ∃ q, canWriteF F nm s.a s.n = q := ⟨_, rfl⟩
  have HQ := Lib.hid hq
  by_cases hq0 : q = 0
  · subst hq0
    have HCW := Lib.hid (canWrite_yes HF.out.ok HF.out.short hq HF.out.room)
    clear hq
    go_enter Tryz.func56, Tryz.ntmps56
    have b0 := HH.out.g.fb.c0
    have b1 := HH.out.g.fb.c1
    have c0 := HH.out.g.gb.c0
    have c1 := HH.out.g.gb.c1
    have s0 := HH.out.sx.s0
    have s1 := HH.out.sx.s1
    have s2 := HH.out.sx.s2
    have s3 := HH.out.sx.s3
    have s4 := HH.out.sx.s4
    have s5 := HH.out.sx.s5
    go_wp2_with fail
    refine (rnames_r s.v nm _ HS.out.v HNM.out).mono ?_
    rintro e w1 ⟨rfl, hb⟩
    have HH := Lib.hid (HH.out.later hb)
    clear hb
    clear b0 b1 c0 c1 s0 s1 s2 s3 s4 s5
    have b0 := HH.out.g.fb.c0
    have b1 := HH.out.g.fb.c1
    have c0 := HH.out.g.gb.c0
    have c1 := HH.out.g.gb.c1
    have s0 := HH.out.sx.s0
    have s1 := HH.out.sx.s1
    have s2 := HH.out.sx.s2
    have s3 := HH.out.sx.s3
    have s4 := HH.out.sx.s4
    have s5 := HH.out.sx.s5
    go_wp2_with fail
    refine (twrite_is F 0 _ nm s.a s.n _ HF.out.ok HF.out.short HH.out.g.fam hnl (by omega) (by omega) HQ.out).mono ?_
    rintro e w2 ⟨rfl, hb⟩
    have HH := Lib.hid (HH.out.later hb)
    clear hb
    clear b0 b1 c0 c1 s0 s1 s2 s3 s4 s5
    have b0 := HH.out.g.fb.c0
    have b1 := HH.out.g.fb.c1
    have c0 := HH.out.g.gb.c0
    have c1 := HH.out.g.gb.c1
    have s0 := HH.out.sx.s0
    have s1 := HH.out.sx.s1
    have s2 := HH.out.sx.s2
    have s3 := HH.out.sx.s3
    have s4 := HH.out.sx.s4
    have s5 := HH.out.sx.s5
    go_wp2_with fail
    obtain ⟨v, p0, n0, hv, hvn, hp, hn, hb, hr, _⟩ := HCW.out
    have hwc := write_is F v (.agg #[.slice fa F.N fc, .map fm]) (.agg #[.int .i64 F.N, .slice ra rn rc]) nm p0 n0 w2 HF.out hv HH.out.g.fam HH.out.g.famr hnl hb hr
    rw [← hp, ← hn] at hwc
    have HLT : Hid (letter5 v.nm) := Lib.hid (write_letter HF.out.ok HS.out.v.1 (by rw [HNM.out]; exact hv))
    have HV := Lib.hid (show getV F.vs v.nm = some v by rw [hvn]; exact hv)
    clear hv hvn hp hn hb hr
    refine hwc.mono ?_
    rintro e w3 ⟨G, fv, gv, rfl, hwi, hf, hg, hb⟩
    obtain ⟨ga, gc, gm, rfl⟩ := hf.form
    obtain ⟨ya, yn, yc, rfl⟩ := hg.form
    have HH := Lib.hid (HH.out.later hb)
    obtain ⟨z1, z2, z3, z4, z5⟩ := two_res HH.out.g.r1 HH.out.g.r2 hf hg HH.out.g.B (by omega)
    have HZ1 := Lib.hid z1
    have HZ2 := Lib.hid z2
    have HZ3 := Lib.hid z3
    have HSO := Lib.hid (hwi.sound HF.out HV.out)
    have HKP := Lib.hid (hwi.keeps HF.out.ok HLT.out)
    have r0 := HH.out.g.r1.c0
    have r1 := HH.out.g.r1.c1
    have r2 := HH.out.g.r1.f0
    have r3 := HH.out.g.r1.f1
    have t0 := (HH.out.g.r2.far (R := w.heap.size + 1 + 1 + 1) (by omega) (.slice ga G.N gc) (.map gm)).c0
    have t1 := (HH.out.g.r2.far (R := w.heap.size + 1 + 1 + 1) (by omega) (.slice ga G.N gc) (.map gm)).c1
    have t2 := (HH.out.g.r2.far (R := w.heap.size + 1 + 1 + 1) (by omega) (.slice ga G.N gc) (.map gm)).f0
    have t3 := (HH.out.g.r2.far (R := w.heap.size + 1 + 1 + 1) (by omega) (.slice ga G.N gc) (.map gm)).f1
    have j0 := z4.c0
    have j1 := z4.c1
    have j2 := z5.c0
    have j3 := z5.c1
    clear z1 z2 z3 z4 z5 hwi hf hg hb
    clear b0 b1 c0 c1 s0 s1 s2 s3 s4 s5
    go_wp2_with fail
    refine bodyPost_ret (v := .tuple #[.agg #[.slice ga G.N gc, .map gm], .agg #[.int .i64 G.N, .slice ya yn yc], .bool true]) ?_ rfl ⟨G, _, _, rfl, HSO.out, HKP.out, HZ1.out, HZ2.out, HZ3.out⟩
    simp [results, Tryz.results56, go_sem, j0, j1, j2, j3]
  · have d9 : (q == 0) = false := by simpa using hq0
    clear hq hq0
    go_enter Tryz.func56, Tryz.ntmps56
    have b0 := HH.out.g.fb.c0
    have b1 := HH.out.g.fb.c1
    have c0 := HH.out.g.gb.c0
    have c1 := HH.out.g.gb.c1
    have s0 := HH.out.sx.s0
    have s1 := HH.out.sx.s1
    have s2 := HH.out.sx.s2
    have s3 := HH.out.sx.s3
    have s4 := HH.out.sx.s4
    have s5 := HH.out.sx.s5
    go_wp2_with fail
    refine (rnames_r s.v nm _ HS.out.v HNM.out).mono ?_
    rintro e w1 ⟨rfl, hb⟩
    have HH := Lib.hid (HH.out.later hb)
    clear hb
    clear b0 b1 c0 c1 s0 s1 s2 s3 s4 s5
    have b0 := HH.out.g.fb.c0
    have b1 := HH.out.g.fb.c1
    have c0 := HH.out.g.gb.c0
    have c1 := HH.out.g.gb.c1
    have s0 := HH.out.sx.s0
    have s1 := HH.out.sx.s1
    have s2 := HH.out.sx.s2
    have s3 := HH.out.sx.s3
    have s4 := HH.out.sx.s4
    have s5 := HH.out.sx.s5
    go_wp2_with fail
    refine (twrite_is F q _ nm s.a s.n _ HF.out.ok HF.out.short HH.out.g.fam hnl (by omega) (by omega) HQ.out).mono ?_
    rintro e w2 ⟨rfl, hb⟩
    have HH := Lib.hid (HH.out.later hb)
    clear hb
    clear b0 b1 c0 c1 s0 s1 s2 s3 s4 s5
    go_upto_region 4 with fail
    have HP := Lib.hid HH.out.g
    have a0 := HP.out.fb.c0
    have a1 := HP.out.fb.c1
    have d0 := HP.out.gb.c0
    have d1 := HP.out.gb.c1
    have r0 := HP.out.r1.c0
    have r1 := HP.out.r1.c1
    have r2 := HP.out.r1.f0
    have r3 := HP.out.r1.f1
    have s0 := HP.out.r2.c0
    have s1 := HP.out.r2.c1
    have s2 := HP.out.r2.f0
    have s3 := HP.out.r2.f1
    have hoo := HP.out.o
    have m0 := (HP.out.gb.far (R := w.heap.size + 1 + 1 + 1) (by omega) (.slice fa F.N fc) (.map fm)).c0
    have m1 := (HP.out.gb.far (R := w.heap.size + 1 + 1 + 1) (by omega) (.slice fa F.N fc) (.map fm)).c1
    have m2 := (HP.out.r2.far (R := w.heap.size + 1 + 1 + 1) (by omega) (.slice fa F.N fc) (.map fm)).c0
    have m3 := (HP.out.r2.far (R := w.heap.size + 1 + 1 + 1) (by omega) (.slice fa F.N fc) (.map fm)).c1
    clear hoo
    go_region_law (fail)
    all_goals
      obtain ⟨z1, z2, z3, z4, z5⟩ := two_res HP.out.r1 HP.out.r2 HP.out.fam HP.out.famr HP.out.B (by have := HP.out.o; have := HP.out.le; omega)
      have HZ1 := Lib.hid (z1.keep (Below.refl _ _).drew)
      have HZ2 := Lib.hid (z2.keep (Below.refl _ _).drew)
      have HZ3 := Lib.hid z3.drew
      have j0 := z4.c0
      have j1 := z4.c1
      have j2 := z5.c0
      have j3 := z5.c1
      clear z1 z2 z3 z4 z5 a0 a1 d0 d1 r0 r1 r2 r3 s0 s1 s2 s3 m0 m1 m2 m3
      go_wp2_with fail
      refine bodyPost_ret (v := .tuple #[.agg #[.slice fa F.N fc, .map fm], .agg #[.int .i64 F.N, .slice ra rn rc], .bool true]) ?_ rfl ⟨F, _, _, rfl, HF.out, Keeps.refl HF.out.ok, HZ1.out, HZ2.out, HZ3.out⟩
      simp [results, Tryz.results56, go_sem, j0, j1, j2, j3]
end Go.Proofs.YtpakjddfnhnndaaGreat
