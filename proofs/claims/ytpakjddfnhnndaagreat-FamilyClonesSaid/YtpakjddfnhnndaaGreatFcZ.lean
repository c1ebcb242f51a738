/-
  The walk of the law FamilyClones.
  Conditions: none beyond that the arguments can be read.
-/
import Derived.Test.YtpakjddfnhnndaaGreatFcU
namespace Go.Proofs.YtpakjddfnhnndaaGreat
set_option linter.unusedSimpArgs false
set_option linter.unusedVariables false
set_option maxRecDepth 100000
open Go.RowKit Go.Maps

theorem cloneN_max : cloneN.length ≤ maxLen := by decide
theorem free_r (F : Fam) (Z : List E) (fv : Value) (w : World) (h : FamV w fv F) (he : zeroL F.C = Z) : Calls Tryz.prog 30 #[fv] w fun e w' => ∃ sv, e = .returned sv ∧ OwnE w' w.heap.size sv Z ∧ Below w.heap.size w w' := by
  subst he
  exact ffree_is F fv w h
/-- What the last statement of the law reads. -/
structure CL (w W : World) (T X A B D Y : Nat) (fu fv gx gy xu xv du dv : Value) (F G : Fam) (iA iB iY : Info) : Prop where
  lb : LB w W T fu fv gx gy F
  xb : Bx W X 28 xu xv
  xf : FamV W (.agg #[xu, xv]) G
  db : Bx W D 28 du dv
  df : FamV W (.agg #[du, dv]) F
  ia : IT W A iA
  ib : IT W B iB
  iy : IT W Y iY
theorem CL.later {w W W' : World} {T X A B D Y : Nat} {fu fv gx gy xu xv du dv : Value} {F G : Fam} {iA iB iY : Info} (h : CL w W T X A B D Y fu fv gx gy xu xv du dv F G iA iB iY) (hb : Below W.heap.size W W') : CL w W' T X A B D Y fu fv gx gy xu xv du dv F G iA iB iY :=
  ⟨h.lb.later hb, h.xb.later hb, h.xf.keep hb, h.db.later hb, h.df.keep hb, h.ia.later hb, h.ib.later hb, h.iy.later hb⟩
theorem CL.facts {w W W' : World} {T X A B D Y : Nat} {fa ra xa da : Option Addr} {fc rn rc xc dc : Nat} {fm xm dm : Option Nat} {F G : Fam} {vn : List UInt8} {n r ln sg : Int}
    (h : CL w W T X A B D Y (.slice fa F.N fc) (.map fm) (.int .i64 F.N) (.slice ra rn rc) (.slice xa G.N xc) (.map xm) (.slice da F.N dc) (.map dm) F G ⟨vn, n, r, ln, 0⟩ ⟨cloneN, n, 0, ln, 0⟩ ⟨vn, n, r, ln, sg⟩) (hb : Below W.heap.size W W') :
    W'.cell? ⟨T, 0, none⟩ = some (.slice fa F.N fc) ∧ W'.cell? ⟨T, 1, none⟩ = some (.map fm) ∧ W'.cell? ⟨T + 1, 0, none⟩ = some (.int .i64 F.N) ∧ W'.cell? ⟨T + 1, 1, none⟩ = some (.slice ra rn rc) ∧ W'.cell? ⟨X, 0, none⟩ = some (.slice xa G.N xc) ∧ W'.cell? ⟨X, 1, none⟩ = some (.map xm) ∧ W'.cell? ⟨D, 0, none⟩ = some (.slice da F.N dc) ∧ W'.cell? ⟨D, 1, none⟩ = some (.map dm) ∧ W'.cell? ⟨A, 3, none⟩ = some (.int .i64 ln) ∧ W'.cell? ⟨A, 4, none⟩ = some (.int .i64 0) ∧ W'.cell? ⟨B, 0, none⟩ = some (.string ⟨#[99, 108, 111, 110, 101]⟩) ∧ W'.cell? ⟨B, 1, none⟩ = some (.int .i64 n) ∧ W'.cell? ⟨B, 2, none⟩ = some (.int .i64 0) ∧ W'.cell? ⟨B, 3, none⟩ = some (.int .i64 ln) ∧ W'.cell? ⟨B, 4, none⟩ = some (.int .i64 0) ∧ W'.cell? ⟨Y, 1, none⟩ = some (.int .i64 n) ∧ W'.cell? ⟨Y, 3, none⟩ = some (.int .i64 ln) ∧ Below W.heap.size W W' :=
  let k := h.later hb
  ⟨k.lb.fb.c0, k.lb.fb.c1, k.lb.gb.c0, k.lb.gb.c1, k.xb.c0, k.xb.c1, k.db.c0, k.db.c1, k.ia.t3, k.ia.t4, k.ib.t0, k.ib.t1, k.ib.t2, k.ib.t3, k.ib.t4, k.iy.t1, k.iy.t3, hb⟩
set_option maxHeartbeats 16000000 in
theorem law_clones36 (i : Int) (S : List Step36) (z : Int) (a : Option Addr) (c : Nat) (w : World) (hi : 0 ≤ i ∧ i ≤ 255) (hr : RdS36 w a S) (hz : 0 ≤ z ∧ z ≤ 255) :
    Calls Tryz.prog 7 #[.int .u8 i, .slice a S.length c, .int .u8 z] w fun e w' => e = .returned (.bool true) ∧ Below w.heap.size w w' := by
  obtain ⟨n, rfl⟩ := Int.eq_ofNat_of_zero_le hi.1
  have hn : n ≤ 255 := by omega
  have hlen := hr.1
  by_cases h25 : 20 < S.length
  · go_enter Tryz.func7, Tryz.ntmps7
    go_wp2_with fail
    refine (awake36_any _).mono ?_
    rintro e w1 ⟨rfl, hb1⟩
    go_wp2_with fail
    go_ret
    exact ⟨rfl, by first | exact hb1 | exact HK0.out.on hb1⟩
  go_enter Tryz.func7, Tryz.ntmps7
  go_wp2_with fail
  refine (awake36_any _).mono ?_
  rintro e w1 ⟨rfl, hb1⟩
  go_wp2_with fail
  refine (build36_is n S a c _ hn (hr.keep hb1)).mono ?_
  rintro e w2 ⟨F, fv, gv, rfl, hgd, hFN, hf, hg, hb2⟩
  obtain ⟨fa, fc, fm, rfl⟩ := hf.form
  obtain ⟨ra, rn, rc, rfl⟩ := hg.form
  have HL := Lib.hid (LB.new hf hg (hb1.on hb2))
  have HBW := Lib.hid (hb1.on hb2)
  have HGD := Lib.hid hgd
  have HS9 := Lib.hid (small_short hgd.1 hgd.2)
  have hm50 : F.N < 50 := by rw [hFN]; omega
  clear hgd hFN hf hg hb1 hb2 hr
  obtain ⟨nm, hnm, hnl⟩ : ∃ nm, nameN z = nm ∧ nm.length ≤ maxLen := ⟨_, rfl, nameN_max _⟩
  have HNM := Lib.hid hnm
  clear hnm
  go_wp2_with fail
  refine (rnames_r z nm _ hz HNM.out).mono ?_
  rintro e w3 ⟨rfl, hb⟩
  have HL := Lib.hid (HL.out.later hb)
  clear hb
  have b0 := HL.out.fb.c0
  have b1 := HL.out.fb.c1
  cases hg : getV F.vs nm with
  | none =>
    have HC : Hid (cloneF F nm cloneN = (zeroF, 9)) := Lib.hid (by simp [cloneF, hg])
    obtain ⟨a2, c2, ts, he, hr2, hl2, hts, _⟩ := HL.out.famr
    obtain ⟨rfl, rfl, rfl⟩ : ra = a2 ∧ rn = ts.length ∧ rc = c2 := by
      injection he with he
      have h1 := congrArg Array.toList he
      simp at h1
      exact h1
    have HAT := Lib.hid (at_none hts hg)
    have HR := Lib.hid hr2
    clear he hr2 hl2 hts hg
    go_wp2_with fail
    refine (clone_r F zeroF 9 _ nm cloneN _ HGD.out.1 HS9.out HL.out.fam hnl cloneN_max HC.out).mono ?_
    rintro e w4 ⟨gv, rfl, hgf, hb⟩
    obtain ⟨ga, gc, gm, rfl⟩ := hgf.form
    have hk := hb.onAlloc (.cells #[.slice ga zeroF.N gc, .map gm] 28)
    have HL := Lib.hid (HL.out.later hk)
    have HR := Lib.hid (HR.out.keep hk)
    clear hb hk hgf b0 b1
    have c0 := HL.out.gb.c0
    have c1 := HL.out.gb.c1
    go_wp2_with fail
    refine (rat_r F.N ts nm ra rc _ HR.out _ HAT.out).mono ?_
    rintro e w5 ⟨rfl, hb⟩
    have hB9 := HL.out.B.on hb
    clear hb c0 c1
    go_wp2_with fail
    go_ret
    exact ⟨rfl, hB9⟩
  | some v =>
    obtain ⟨hv1, hv2⟩ := getV_mem hg
    obtain ⟨vn, n, r, l⟩ := v
    have hv2 : vn = nm := hv2
    subst hv2
    have HC := Lib.hid (clone_yes HGD.out hv1)
    have HOKC := Lib.hid (clone_ok HGD.out hv1)
    have HSC := Lib.hid (clone_short HGD.out hv1)
    have HIV := Lib.hid (clone_infov HGD.out hv1)
    have HIC := Lib.hid (clone_infoc HGD.out hv1)
    have HZC := Lib.hid (clone_zero HGD.out hv1)
    have HBC := Lib.hid (clone_back HGD.out hv1)
    have HIF : Hid (infoF F vn = (⟨vn, n, r, lenL l, singleC F.C l⟩, 0)) := Lib.hid (info_of HGD.out.1 hv1)
    obtain ⟨a2, c2, ts, he, hr2, hl2, hts, _⟩ := HL.out.famr
    obtain ⟨rfl, rfl, rfl⟩ : ra = a2 ∧ rn = ts.length ∧ rc = c2 := by
      injection he with he
      have h1 := congrArg Array.toList he
      simp at h1
      exact h1
    obtain ⟨kk, hkk, hat, _, _⟩ := at_some hts hg
    have HAT := Lib.hid hat
    have HR := Lib.hid hr2
    generalize singleC F.C l = sg at *
    obtain ⟨G, hG⟩ : ∃ G, withClone F ⟨vn, n, r, l⟩ = G := ⟨_, rfl⟩
    rw [hG] at HC HOKC HSC HIV HIC HZC HBC
    clear he hr2 hl2 hts hg hat hv1 hG
    go_wp2_with fail
    refine (clone_r F G 0 _ vn cloneN _ HGD.out.1 HS9.out HL.out.fam hnl cloneN_max HC.out).mono ?_
    rintro e w4 ⟨gv, rfl, hgf, hb⟩
    obtain ⟨xa, xc, xm, rfl⟩ := hgf.form
    have hk := hb.onAlloc (.cells #[.slice xa G.N xc, .map xm] 28)
    have HL := Lib.hid (HL.out.later hk)
    have HR := Lib.hid (HR.out.keep hk)
    have HX := Lib.hid (Bx.new w4 _ rfl (.slice xa G.N xc) (.map xm) 28)
    have HXF := Lib.hid (hgf.keep ((Below.refl w4.heap.size w4).onAlloc (.cells #[.slice xa G.N xc, .map xm] 28)))
    clear hb hk hgf b0 b1
    have c0 := HL.out.gb.c0
    have c1 := HL.out.gb.c1
    have kk0 : (0 : Int) ≤ kk := by omega
    go_wp2_with fail
    refine (rat_r F.N ts vn ra rc _ HR.out _ HAT.out).mono ?_
    rintro e w5 ⟨rfl, hb⟩
    have HL := Lib.hid (HL.out.later hb)
    have HX := Lib.hid (HX.out.later hb)
    have HXF := Lib.hid (HXF.out.keep hb)
    clear hb c0 c1 HR
    have x0 := HX.out.c0
    have x1 := HX.out.c1
    go_wp2_with fail
    refine (info_r G vn n r (lenL l) 0 0 _ vn _ HOKC.out HSC.out HXF.out hnl HIV.out).mono ?_
    rintro e w6 ⟨rfl, hb⟩
    have hk := hb.onAlloc (.cells #[nmV vn, .int .i64 n, .int .i64 r, .int .i64 (lenL l), .int .i64 0] 34)
    have HIA := Lib.hid (IT.new w6 _ rfl ⟨vn, n, r, lenL l, 0⟩ 34)
    have HL := Lib.hid (HL.out.later hk)
    have HX := Lib.hid (HX.out.later hk)
    have HXF := Lib.hid (HXF.out.keep hk)
    clear hb hk x0 x1
    have x0 := HX.out.c0
    have x1 := HX.out.c1
    go_wp2_with fail
    refine (info_r G cloneN n 0 (lenL l) 0 0 _ cloneN _ HOKC.out HSC.out HXF.out cloneN_max HIC.out).mono ?_
    rintro e w7 ⟨rfl, hb⟩
    have hk := hb.onAlloc (.cells #[nmV cloneN, .int .i64 n, .int .i64 0, .int .i64 (lenL l), .int .i64 0] 34)
    have HIB := Lib.hid (IT.new w7 _ rfl ⟨cloneN, n, 0, lenL l, 0⟩ 34)
    have HIA := Lib.hid (HIA.out.later hk)
    have HL := Lib.hid (HL.out.later hk)
    have HX := Lib.hid (HX.out.later hk)
    have HXF := Lib.hid (HXF.out.keep hk)
    clear hb hk x0 x1
    have x0 := HX.out.c0
    have x1 := HX.out.c1
    go_wp2_with fail
    refine (delete_r G F [] 0 _ cloneN _ HOKC.out HSC.out HXF.out cloneN_max HBC.out).mono ?_
    rintro e w8 ⟨dv, sv, rfl, hdf, hso, hb⟩
    obtain ⟨da, dc, dm, rfl⟩ := hdf.form
    obtain ⟨sa, sc, rfl, _⟩ := hso.rd (by simp)
    have hk := hb.onAlloc (.cells #[.slice da F.N dc, .map dm] 28)
    have HD := Lib.hid (Bx.new w8 _ rfl (.slice da F.N dc) (.map dm) 28)
    have HDF := Lib.hid (hdf.keep ((Below.refl w8.heap.size w8).onAlloc (.cells #[.slice da F.N dc, .map dm] 28)))
    have HIA := Lib.hid (HIA.out.later hk)
    have HIB := Lib.hid (HIB.out.later hk)
    have HL := Lib.hid (HL.out.later hk)
    have HX := Lib.hid (HX.out.later hk)
    have HXF := Lib.hid (HXF.out.keep hk)
    clear hb hk hdf hso x0 x1
    have c0 := HL.out.gb.c0
    have c1 := HL.out.gb.c1
    go_wp2_with fail
    refine (rinfo_r F vn n r (lenL l) sg 0 _ vn _ HGD.out.1 HL.out.famr hnl HIF.out).mono ?_
    rintro e w9 ⟨rfl, hb⟩
    have hk := hb.onAlloc (.cells #[nmV vn, .int .i64 n, .int .i64 r, .int .i64 (lenL l), .int .i64 sg] 34)
    have HCL := Lib.hid (CL.mk (HL.out.later hk) (HX.out.later hk) (HXF.out.keep hk) (HD.out.later hk) (HDF.out.keep hk) (HIA.out.later hk) (HIB.out.later hk) (IT.new w9 _ rfl ⟨vn, n, r, lenL l, sg⟩ 34))
    clear hb hk c0 c1 HL HX HXF HD HDF HIA HIB
    go_upto_region 16 with fail
    generalize w9.alloc (.cells #[nmV vn, .int .i64 n, .int .i64 r, .int .i64 (lenL l), .int .i64 sg] 34) = W9 at *
    generalize w9.heap.size = Y at *
    generalize w8.heap.size = D at *
    generalize w7.heap.size = B at *
    generalize w6.heap.size = A at *
    generalize w4.heap.size = X at *
    generalize w2.heap.size = T at *
    have HV := Lib.hid (HCL.out.later (Below.refl _ _).drew)
    have hfl := freeL_short F.C
    go_region_held3 (fun w' => w'.cell? ⟨T, 0, none⟩ = some (.slice fa F.N fc) ∧ w'.cell? ⟨T, 1, none⟩ = some (.map fm) ∧ w'.cell? ⟨T + 1, 0, none⟩ = some (.int .i64 F.N) ∧ w'.cell? ⟨T + 1, 1, none⟩ = some (.slice ra ts.length rc) ∧ w'.cell? ⟨X, 0, none⟩ = some (.slice xa G.N xc) ∧ w'.cell? ⟨X, 1, none⟩ = some (.map xm) ∧ w'.cell? ⟨D, 0, none⟩ = some (.slice da F.N dc) ∧ w'.cell? ⟨D, 1, none⟩ = some (.map dm) ∧ w'.cell? ⟨A, 3, none⟩ = some (.int .i64 (lenL l)) ∧ w'.cell? ⟨A, 4, none⟩ = some (.int .i64 0) ∧ w'.cell? ⟨B, 0, none⟩ = some (.string ⟨#[99, 108, 111, 110, 101]⟩) ∧ w'.cell? ⟨B, 1, none⟩ = some (.int .i64 n) ∧ w'.cell? ⟨B, 2, none⟩ = some (.int .i64 0) ∧ w'.cell? ⟨B, 3, none⟩ = some (.int .i64 (lenL l)) ∧ w'.cell? ⟨B, 4, none⟩ = some (.int .i64 0) ∧ w'.cell? ⟨Y, 1, none⟩ = some (.int .i64 n) ∧ w'.cell? ⟨Y, 3, none⟩ = some (.int .i64 (lenL l)) ∧ Below W9.drew.heap.size W9.drew w')
      (first
        | with_reducible exact CL.facts HV.out (Below.refl _ _)
        | with_reducible exact CL.facts HV.out hW1
        | with_reducible exact CL.facts HV.out hW2
        | with_reducible exact CL.facts HV.out hW3
        | with_reducible exact CL.facts HV.out hW4)
      (first
        | (go_at_call_of 30 (Value.agg #[.slice xa G.N xc, .map xm]); have hW := (‹_ ∧ _ ∧ _ ∧ _ ∧ _ ∧ _ ∧ _ ∧ _ ∧ _ ∧ _ ∧ _ ∧ _ ∧ _ ∧ _ ∧ _ ∧ _ ∧ _ ∧ Below W9.drew.heap.size W9.drew _›).2.2.2.2.2.2.2.2.2.2.2.2.2.2.2.2.2; refine (free_r G (zeroL F.C) _ _ (HV.out.later hW).xf HZC.out).mono ?_; rintro e v1 ⟨sv1, rfl, ho1, hb1⟩; obtain ⟨pa, pc, rfl, hp1⟩ := ho1.rd (by omega); (try (have HPB := Lib.hid (HPB.out.keep hb1))); have HPA := Lib.hid hp1; have hW1 := hW.on hb1)
        | (go_at_call_of 30 (Value.agg #[.slice fa F.N fc, .map fm]); have hW := (‹_ ∧ _ ∧ _ ∧ _ ∧ _ ∧ _ ∧ _ ∧ _ ∧ _ ∧ _ ∧ _ ∧ _ ∧ _ ∧ _ ∧ _ ∧ _ ∧ _ ∧ Below W9.drew.heap.size W9.drew _›).2.2.2.2.2.2.2.2.2.2.2.2.2.2.2.2.2; refine (free_r F (zeroL F.C) _ _ (HV.out.later hW).lb.fam rfl).mono ?_; rintro e v2 ⟨sv2, rfl, ho2, hb2⟩; obtain ⟨qa, qc, rfl, hp2⟩ := ho2.rd (by omega); (try (have HPA := Lib.hid (HPA.out.keep hb2))); have HPB := Lib.hid hp2; have hW2 := hW.on hb2)
        | (go_at_call 27; have hW := (‹_ ∧ _ ∧ _ ∧ _ ∧ _ ∧ _ ∧ _ ∧ _ ∧ _ ∧ _ ∧ _ ∧ _ ∧ _ ∧ _ ∧ _ ∧ _ ∧ _ ∧ Below W9.drew.heap.size W9.drew _›).2.2.2.2.2.2.2.2.2.2.2.2.2.2.2.2.2; refine (same_is (zeroL F.C) (zeroL F.C) pa qa pc qc true _ (sameB_refl _) HPA.out HPB.out).mono ?_; rintro e v3 ⟨rfl, hb3⟩; have hW3 := hW.on hb3)
        | (go_at_call 34; have hW := (‹_ ∧ _ ∧ _ ∧ _ ∧ _ ∧ _ ∧ _ ∧ _ ∧ _ ∧ _ ∧ _ ∧ _ ∧ _ ∧ _ ∧ _ ∧ _ ∧ _ ∧ Below W9.drew.heap.size W9.drew _›).2.2.2.2.2.2.2.2.2.2.2.2.2.2.2.2.2; refine (same36_is F _ _ _ HGD.out.1 HS9.out (HV.out.later hW).df (HV.out.later hW).lb.famr).mono ?_; rintro e v4 ⟨rfl, hb4⟩; have hW4 := hW.on hb4))
    all_goals
      have HBF := Lib.hid (HV.out.later hW4).lb.B
      clear hb4 hW4
      go_wp2_with fail
      go_ret
      exact ⟨rfl, HBF.out⟩
end Go.Proofs.YtpakjddfnhnndaaGreat
