/-
  The walk of the law FamilyAccounts.
  Conditions: none beyond that the arguments can be read.
-/
import Derived.Test.YtpakjddfnhnndaaGreatFcU
namespace Go.Proofs.YtpakjddfnhnndaaGreat
set_option linter.unusedSimpArgs false
set_option linter.unusedVariables false
set_option maxRecDepth 100000
open Go.RowKit Go.Maps

theorem lenL_take1 (L : List E) (k : Nat) (h : k < L.length) : lenL (L.take (k + 1)) = lenL (L.take k) + L[k].n := by
  unfold lenL
  rw [List.take_succ_eq_append_getElem h, List.map_append, List.sum_append]
  simp
theorem lenL_part (L : List E) (h : ∀ x ∈ L, 0 ≤ x.n) (k : Nat) : 0 ≤ lenL (L.take k) ∧ lenL (L.take k) ≤ lenL (L.take L.length) := by
  have key : ∀ L : List E, (∀ x ∈ L, 0 ≤ x.n) → 0 ≤ lenL L := by
    intro L
    induction L with
    | nil => intro _; simp [lenL]
    | cons x r ih =>
      intro h
      have h1 := h x (by simp)
      have h2 := ih fun y hy => h y (by simp [hy])
      rw [lenL_cons]
      omega
  have h1 := key (L.take k) fun x hx => h x (List.mem_of_mem_take hx)
  have h2 := key (L.drop k) fun x hx => h x (List.mem_of_mem_drop hx)
  have h3 : lenL L = lenL (L.take k) + lenL (L.drop k) := by
    conv => lhs; rw [← List.take_append_drop k L]
    unfold lenL
    rw [List.map_append, List.sum_append]
  rw [List.take_length]
  omega
theorem lenL_bd36 (l : List E) (M : Int) (h : ∀ x ∈ l, 0 ≤ x.n ∧ x.n ≤ M) : 0 ≤ lenL l ∧ lenL l ≤ M * l.length := by
  induction l with
  | nil => simp [lenL]
  | cons x r ih =>
    have h1 := h x (by simp)
    have h2 := ih fun y hy => h y (by simp [hy])
    rw [lenL_cons, List.length_cons, show ((r.length + 1 : Nat) : Int) = r.length + 1 by omega, Int.mul_add]
    omega
def mapsN (f : Vol → Int) (vs : List Vol) (k : Nat) : Int := ((vs.take k).map f).sum
theorem mapsN_next (f : Vol → Int) (vs : List Vol) (k : Nat) (h : k < vs.length) : mapsN f vs (k + 1) = mapsN f vs k + f vs[k] := by
  unfold mapsN
  rw [List.take_succ_eq_append_getElem h, List.map_append, List.sum_append]
  simp
theorem mapsN_all (f : Vol → Int) (vs : List Vol) : mapsN f vs vs.length = (vs.map f).sum := by
  unfold mapsN
  rw [List.take_length]
theorem mapsN_bound (f : Vol → Int) (vs : List Vol) (M : Int) (h : ∀ v ∈ vs, 0 ≤ f v ∧ f v ≤ M) (k : Nat) : 0 ≤ mapsN f vs k ∧ mapsN f vs k ≤ M * vs.length := by
  have key : ∀ vs : List Vol, (∀ v ∈ vs, 0 ≤ f v ∧ f v ≤ M) → 0 ≤ (vs.map f).sum ∧ (vs.map f).sum ≤ M * vs.length := by
    intro vs
    induction vs with
    | nil => intro _; simp
    | cons v r ih =>
      intro h
      have h1 := h v (by simp)
      have h2 := ih fun w hw => h w (by simp [hw])
      simp only [List.map_cons, List.sum_cons, List.length_cons]
      rw [show ((r.length + 1 : Nat) : Int) = r.length + 1 by omega, Int.mul_add]
      omega
  have h1 := key (vs.take k) fun v hv => h v (List.mem_of_mem_take hv)
  unfold mapsN
  refine ⟨h1.1, Int.le_trans h1.2 ?_⟩
  by_cases h0 : vs = []
  · subst h0; simp
  · obtain ⟨v, hv⟩ := List.exists_mem_of_ne_nil vs h0
    have hM : 0 ≤ M := by have := h v hv; omega
    exact Int.mul_le_mul_of_nonneg_left (by have := List.length_take_le' k vs; omega) hM
set_option maxHeartbeats 8000000 in
theorem law_accounts36 (i : Int) (S : List Step36) (a : Option Addr) (c : Nat) (w : World) (hi : 0 ≤ i ∧ i ≤ 255) (hr : RdS36 w a S) :
    Calls Tryz.prog 6 #[.int .u8 i, .slice a S.length c] w fun e w' => e = .returned (.bool true) ∧ Below w.heap.size w w' := by
  obtain ⟨n, rfl⟩ := Int.eq_ofNat_of_zero_le hi.1
  have hn : n ≤ 255 := by omega
  have hlen := hr.1
  by_cases h25 : 25 < S.length
  · go_enter Tryz.func6, Tryz.ntmps6
    go_wp2_with fail
    refine (awake36_any _).mono ?_
    rintro e w1 ⟨rfl, hb1⟩
    go_wp2_with fail
    go_ret
    exact ⟨rfl, by first | exact hb1 | exact HK0.out.on hb1⟩
  go_enter Tryz.func6, Tryz.ntmps6
  go_wp2_with fail
  refine (awake36_any _).mono ?_
  rintro e w1 ⟨rfl, hb1⟩
  go_wp2_with fail
  refine (build36_is n S a c _ hn (hr.keep hb1)).mono ?_
  rintro e w2 ⟨F, fv, gv, rfl, hgd, hFN, hf, hg, hb2⟩
  obtain ⟨fa, fc, fm, rfl⟩ := hf.form
  obtain ⟨ra, rn, rc, rfl⟩ := hg.form
  have HL := Lib.hid (LB.new hf hg (hb1.on hb2))
  have HBW := Lib.hid (hb1.on hb2)
  have HGD := Lib.hid hgd
  have HS9 := Lib.hid (small_short hgd.1 hgd.2)
  have hm50 : F.N < 50 := by rw [hFN]; omega
  clear hgd hFN hf hg hb1 hb2 hr
  go_wp2_with fail
  generalize (w2.alloc (.cells #[.slice fa F.N fc, .map fm] 28)).alloc (.cells #[.int .i64 F.N, .slice ra rn rc] 45) = W0 at *
  generalize w2.heap.size = T at *
  have HCL := Lib.hid F.C_length
  have HRNG := Lib.hid HGD.out.1.range
  have HST : Hid (∀ k, k < F.C.length → sumC (F.C.take (k + 1)) = sumC (F.C.take k) + F.C.getD k 0) := Lib.hid fun k hk => by
    rw [sumC_take F.C k hk, List.getD_eq_getElem?_getD, List.getElem?_eq_getElem hk]; rfl
  have HOF : Hid (∀ k : Nat, k < F.C.length → ofC F.C k = F.C.getD k 0) := Lib.hid fun k hk => ofC_at F.C k hk
  have HBS : Hid (∀ k, 0 ≤ sumC (F.C.take k) ∧ sumC (F.C.take k) ≤ 2097152 * 50) := Lib.hid fun k => by
    have h1 := sumC_bound (take_range HRNG.out k) (by omega)
    have h2 := List.length_take_le' k F.C
    rw [HCL.out] at h2
    omega
  go_loopw [8, 9, 10, 11] (fun x y z i wr => ∃ k : Nat, k ≤ F.N ∧ i = .int .i64 k ∧ x = .int .i64 (sumC (F.C.take k)) ∧ y = .int .i64 (area (oneB F.C) k) ∧ z = .int .i64 (area (zeroB F.C) k) ∧ Below W0.heap.size W0 wr) (fun _ _ _ i _ => F.N - (intOf i).toNat)
  case atStart => exact ⟨0, Nat.zero_le _, rfl, rfl, rfl, rfl, Below.refl _ _⟩
  case round =>
    obtain ⟨k, hk, rfl, rfl, rfl, rfl, hB⟩ := hrel
    have HM := Lib.hid (HL.out.later hB)
    have HB0 := Lib.hid hB
    clear hB
    have b0 := HM.out.fb.c0
    have b1 := HM.out.fb.c1
    by_cases hlt : k < F.N
    · have hkc : k < F.C.length := by rw [HCL.out]; exact hlt
      have HOK := Lib.hid (HOF.out k hkc)
      have HSK := Lib.hid (HST.out k hkc)
      obtain ⟨s1, s2⟩ := HBS.out k
      obtain ⟨s3, s4⟩ := HBS.out (k + 1)
      obtain ⟨g1, g2⟩ := (inR_get.1 HRNG.out k hkc)
      have ha1 := area_le (oneB F.C) k
      have ha2 := area_le (zeroB F.C) k
      have HA1 : Hid (area (oneB F.C) (k + 1) = area (oneB F.C) k + if oneB F.C k = true then 1 else 0) := Lib.hid rfl
      have HA2 : Hid (area (zeroB F.C) (k + 1) = area (zeroB F.C) k + if zeroB F.C k = true then 1 else 0) := Lib.hid rfl
      have h1b : oneB F.C k = (F.C.getD k 0 == 1) := by unfold oneB; rw [Bool.eq_iff_iff]; simp
      have h2b : zeroB F.C k = (F.C.getD k 0 == 0) := by unfold zeroB; rw [Bool.eq_iff_iff]; simp
      rw [h1b] at HA1
      rw [h2b] at HA2
      generalize F.C.getD k 0 = cv at *
      generalize sumC (F.C.take k) = sk at *
      generalize area (oneB F.C) k = ok1 at *
      generalize area (zeroB F.C) k = zk1 at *
      clear h1b h2b hkc s3 s4
      go_wp2_with fail
      refine (slots_r F F.N _ _ HGD.out.1 HM.out.fam rfl).mono ?_
      rintro e v1 ⟨rfl, hb1⟩
      have HM := Lib.hid (HM.out.later hb1)
      have HB0 := Lib.hid (HB0.out.on hb1)
      clear hb1 b0 b1
      have b0 := HM.out.fb.c0
      have b1 := HM.out.fb.c1
      go_wp2_with fail
      refine (count_r F _ k cv _ HM.out.fam HOK.out).mono ?_
      rintro e v2 ⟨rfl, hb1⟩
      have HM := Lib.hid (HM.out.later hb1)
      have HB0 := Lib.hid (HB0.out.on hb1)
      clear hb1 b0 b1
      have b0 := HM.out.fb.c0
      have b1 := HM.out.fb.c1
      go_wp2_with fail
      refine (count_r F _ k cv _ HM.out.fam HOK.out).mono ?_
      rintro e v3 ⟨rfl, hb1⟩
      have HM := Lib.hid (HM.out.later hb1)
      have HB0 := Lib.hid (HB0.out.on hb1)
      clear hb1 b0 b1
      have b0 := HM.out.fb.c0
      have b1 := HM.out.fb.c1
      cases h1 : (cv == 1)
      · cases h2 : (cv == 0)
        · have HE1 := Lib.hid HA1.out
          have HE2 := Lib.hid HA2.out
          rw [h1] at HE1
          rw [h2] at HE2
          clear HA1 HA2
          go_wp2_with fail
          refine (count_r F _ k cv _ HM.out.fam HOK.out).mono ?_
          rintro e v4 ⟨rfl, hb1⟩
          have HB0 := Lib.hid (HB0.out.on hb1)
          clear hb1 b0 b1
          go_wp2_with fail
          go_roundw
          case rel => exact ⟨k + 1, by omega, by go_num, by first | (rw [HSK.out]; done) | (rw [HSK.out]; go_num), by first | (rw [HE1.out]; simp; done) | (rw [HE1.out]; go_num), by first | (rw [HE2.out]; simp; done) | (rw [HE2.out]; go_num), HB0.out⟩
          case measure => simp [intOf]; omega
        · have HE1 := Lib.hid HA1.out
          have HE2 := Lib.hid HA2.out
          rw [h1] at HE1
          rw [h2] at HE2
          clear HA1 HA2
          go_wp2_with fail
          refine (count_r F _ k cv _ HM.out.fam HOK.out).mono ?_
          rintro e v4 ⟨rfl, hb1⟩
          have HB0 := Lib.hid (HB0.out.on hb1)
          clear hb1 b0 b1
          go_wp2_with fail
          go_roundw
          case rel => exact ⟨k + 1, by omega, by go_num, by first | (rw [HSK.out]; done) | (rw [HSK.out]; go_num), by first | (rw [HE1.out]; simp; done) | (rw [HE1.out]; go_num), by first | (rw [HE2.out]; simp; done) | (rw [HE2.out]; go_num), HB0.out⟩
          case measure => simp [intOf]; omega
      · cases h2 : (cv == 0)
        · have HE1 := Lib.hid HA1.out
          have HE2 := Lib.hid HA2.out
          rw [h1] at HE1
          rw [h2] at HE2
          clear HA1 HA2
          go_wp2_with fail
          refine (count_r F _ k cv _ HM.out.fam HOK.out).mono ?_
          rintro e v4 ⟨rfl, hb1⟩
          have HB0 := Lib.hid (HB0.out.on hb1)
          clear hb1 b0 b1
          go_wp2_with fail
          go_roundw
          case rel => exact ⟨k + 1, by omega, by go_num, by first | (rw [HSK.out]; done) | (rw [HSK.out]; go_num), by first | (rw [HE1.out]; simp; done) | (rw [HE1.out]; go_num), by first | (rw [HE2.out]; simp; done) | (rw [HE2.out]; go_num), HB0.out⟩
          case measure => simp [intOf]; omega
        · exfalso
          simp at h1 h2
          omega
    · obtain rfl : k = F.N := by omega
      have HT : Hid (sumC (F.C.take F.N) = mapsN (fun v => lenL v.l) F.vs F.vs.length) := Lib.hid (by rw [mapsN_all, acc_total HGD.out.1, List.take_of_length_le (by rw [HCL.out]; exact Nat.le_refl _)])
      have HO : Hid ((area (oneB F.C) F.N : Int) = mapsN (fun v => singleC F.C v.l) F.vs F.vs.length) := Lib.hid (by rw [mapsN_all, acc_single HGD.out.1])
      have HZ : Hid ((area (zeroB F.C) F.N : Int) = lenL ((zeroL F.C).take (zeroL F.C).length)) := Lib.hid (by rw [List.take_length, lenL_zero F.C (by rw [HCL.out]; exact HGD.out.1.hN), HCL.out])
      go_wp2_with fail
      refine (slots_r F F.N _ _ HGD.out.1 HM.out.fam rfl).mono ?_
      rintro e v1 ⟨rfl, hb1⟩
      have HM := Lib.hid (HM.out.later hb1)
      clear hb1 b0 b1
      have b0 := HM.out.fb.c0
      have b1 := HM.out.fb.c1
      go_wp2_with fail
      rw [HT.out, HO.out]
      refine (ffree_is F _ _ HM.out.fam).mono ?_
      rintro e v2 ⟨sv, rfl, ho, hb1⟩
      obtain ⟨za, zc, rfl, hz⟩ := ho.rd (by have := freeL_short F.C; omega)
      have HZR := Lib.hid hz
      have HM := Lib.hid (HM.out.later hb1)
      clear hb1 b0 b1 ho hz
      have hN1 : ((area (zeroB F.C) F.N : Nat) : Int) ≤ F.N := by have := area_le (zeroB F.C) F.N; omega
      have HNZ : Hid (∀ k, 0 ≤ lenL ((zeroL F.C).take k) ∧ lenL ((zeroL F.C).take k) ≤ lenL ((zeroL F.C).take (zeroL F.C).length)) := Lib.hid (lenL_part (zeroL F.C) (fun x hx => by have := (okB_iff x).1 ((runs_facts _).1.1 x hx).2; omega))
      rw [HZ.out] at hN1 ⊢
      have HTK := Lib.hid (lenL_take1 (zeroL F.C))
      have hZl : (zeroL F.C).length ≤ 65536 := freeL_short F.C
      obtain ⟨Z, hZ⟩ : ∃ Z, zeroL F.C = Z := ⟨_, rfl⟩
      rw [hZ] at HZR HNZ HTK hN1 hZl ⊢
      obtain ⟨zt, hzt⟩ : ∃ zt, lenL (Z.take Z.length) = zt := ⟨_, rfl⟩
      have HZ9 : Hid (zt - lenL (Z.take Z.length) = 0) := Lib.hid (by omega)
      rw [hzt] at HNZ hN1 ⊢
      clear HZ hZ hzt
      go_wp2_with fail
      go_loopw [10, 13] (fun z i wr => ∃ k : Nat, k ≤ Z.length ∧ i = .int .i64 k ∧ z = .int .i64 (zt - lenL (Z.take k)) ∧ Below v2.heap.size v2 wr) (fun _ i _ => Z.length - (intOf i).toNat)
      case atStart => exact ⟨0, Nat.zero_le _, rfl, by simp [lenL], Below.refl _ _⟩
      case round =>
        obtain ⟨k, hk, rfl, rfl, hB⟩ := hrel
        have HB0 := Lib.hid hB
        by_cases hlt : k < Z.length
        · obtain ⟨zb, zo, rfl, hat⟩ := (HZR.out.keep hB).at (by omega)
          have h1 := (hat k _ (List.getElem?_eq_getElem hlt)).n
          have HK := Lib.hid (HTK.out k hlt)
          obtain ⟨y1, y2⟩ := HNZ.out k
          obtain ⟨y3, y4⟩ := HNZ.out (k + 1)
          have hk0 : (0 : Int) ≤ k := by omega
          have hk1 : (k : Int) < Z.length := by omega
          have hxn : lenL (Z.take (k + 1)) = lenL (Z.take k) + Z[k].n := HTK.out k hlt
          generalize Z[k] = x at *
          generalize lenL (Z.take k) = lk at *
          have hq : wrap64 (zt - lk - x.n) = zt - lk - x.n := by unfold wrap64; omega
          have HXN := Lib.hid hxn
          have HQ9 := Lib.hid hq
          clear hat hB hxn
          go_wp2_with fail
          go_roundw
          case rel => exact ⟨k + 1, by omega, by go_num, by rw [HXN.out]; first | (go_num; done) | (rw [HQ9.out]; congr 1; omega) | (congr 1; omega), HB0.out⟩
          case measure => simp [intOf]; omega
        · obtain rfl : k = Z.length := by omega
          have HM := Lib.hid (HM.out.later hB)
          clear hB HB0
          have b0 := HM.out.fb.c0
          have b1 := HM.out.fb.c1
          go_wp2_with fail
          refine (fnames_is F _ _ HGD.out.1 HM.out.fam).mono ?_
          rintro e v3 ⟨nv, rfl, hns, hb⟩
          obtain ⟨na, nc, rfl, hnr⟩ := hns.rd
          have HNR : Hid (NmsR v3 na (F.vs.map (·.nm))) := Lib.hid hnr
          rw [List.length_map]
          have HM := Lib.hid (HM.out.later hb)
          have h32 := HGD.out.1.few
          have HBL1 : Hid (∀ k, 0 ≤ mapsN (fun v => lenL v.l) F.vs k ∧ mapsN (fun v => lenL v.l) F.vs k ≤ 65536 * 65536 * 32) := Lib.hid fun k => by
            have h1 := mapsN_bound (fun v => lenL v.l) F.vs (65536 * 65536) (fun v hv => by
              have h2 := HGD.out.1.vol v hv
              have h3 := lenL_bd36 v.l 65536 (fun x hx => by have := (okB_iff x).1 (validB_ok h2.valid x hx); omega)
              have h4 := h2.short.1
              omega) k
            omega
          have HBL2 : Hid (∀ k, 0 ≤ mapsN (fun v => singleC F.C v.l) F.vs k ∧ mapsN (fun v => singleC F.C v.l) F.vs k ≤ 65536 * 32) := Lib.hid fun k => by
            have h1 := mapsN_bound (fun v => singleC F.C v.l) F.vs 65536 (fun v hv => by
              have h2 := area_le (fun i => listB v.l i && oneB F.C i) F.C.length
              have h3 := HGD.out.1.hN
              rw [HCL.out] at h2
              unfold singleC
              rw [HCL.out]
              omega) k
            omega
          have HM1 := Lib.hid (mapsN_next (fun v => lenL v.l) F.vs)
          have HM2 := Lib.hid (mapsN_next (fun v => singleC F.C v.l) F.vs)
          clear hnr hns hb b0 b1
          go_wp2_with fail
          have HNZ9 : Hid (zt - lenL (Z.take Z.length) = 0) := Lib.hid HZ9.out
          go_loopw [8, 9, 15] (fun x y i wr => ∃ k : Nat, k ≤ F.vs.length ∧ i = .int .i64 k ∧ x = .int .i64 (mapsN (fun v => lenL v.l) F.vs F.vs.length - mapsN (fun v => lenL v.l) F.vs k) ∧ y = .int .i64 (mapsN (fun v => singleC F.C v.l) F.vs F.vs.length - mapsN (fun v => singleC F.C v.l) F.vs k) ∧ Below v3.heap.size v3 wr) (fun _ _ i _ => F.vs.length - (intOf i).toNat)
          case atStart => exact ⟨0, Nat.zero_le _, rfl, by simp [mapsN], by simp [mapsN], Below.refl _ _⟩
          case round =>
            obtain ⟨k, hk, rfl, rfl, rfl, hB⟩ := hrel
            have HM7 := Lib.hid (HM.out.later hB)
            have HBK := Lib.hid hB
            by_cases hlt : k < F.vs.length
            · have hnk : NmsR wr na (F.vs.map (·.nm)) := HNR.out.keep hB
              have hge : (F.vs.map (·.nm))[k]? = some F.vs[k].nm := by rw [List.getElem?_map, List.getElem?_eq_getElem hlt]; rfl
              obtain ⟨g, hna, hnm⟩ := hnk.resolve_left (fun e => by rw [e] at hge; simp at hge)
              have n7 := hnm k _ hge
              have hmem := List.getElem_mem hlt
              have HE1 := Lib.hid (HM1.out k hlt)
              have HE2 := Lib.hid (HM2.out k hlt)
              generalize F.vs[k] = z at *
              obtain ⟨nm, n, r, l⟩ := z
              have hok := HGD.out.1.vol _ hmem
              have HIF : Hid (infoF F nm = (⟨nm, n, r, lenL l, singleC F.C l⟩, 0)) := Lib.hid (info_of HGD.out.1 hmem)
              have HNL : Hid (nm.length ≤ maxLen) := Lib.hid (nameB_max hok.name)
              obtain ⟨t1, t2⟩ := HBL1.out k
              obtain ⟨t3, t4⟩ := HBL1.out (k + 1)
              obtain ⟨t5, t6⟩ := HBL1.out F.vs.length
              obtain ⟨s1, s2⟩ := HBL2.out k
              obtain ⟨s3, s4⟩ := HBL2.out (k + 1)
              obtain ⟨s5, s6⟩ := HBL2.out F.vs.length
              have he1 : mapsN (fun v => lenL v.l) F.vs (k + 1) = mapsN (fun v => lenL v.l) F.vs k + lenL l := HE1.out
              have he2 : mapsN (fun v => singleC F.C v.l) F.vs (k + 1) = mapsN (fun v => singleC F.C v.l) F.vs k + singleC F.C l := HE2.out
              have HF1 := Lib.hid he1
              have HF2 := Lib.hid he2
              generalize singleC F.C l = sg at *
              generalize mapsN (fun v => lenL v.l) F.vs k = ma at *
              generalize mapsN (fun v => singleC F.C v.l) F.vs k = mb at *
              generalize mapsN (fun v => lenL v.l) F.vs F.vs.length = mc at *
              generalize mapsN (fun v => singleC F.C v.l) F.vs F.vs.length = md at *
              have HQ1 : Hid (wrap64 (mc - ma - lenL l) = mc - ma - lenL l) := Lib.hid (by unfold wrap64; omega)
              have HQ2 : Hid (wrap64 (md - mb - sg) = md - mb - sg) := Lib.hid (by unfold wrap64; omega)
              subst hna
              have hk0 : (0 : Int) ≤ k := by omega
              have hk1 : (k : Int) < F.vs.length := by omega
              clear hB hnk hge hnm hmem hok t1 t2 t3 t4 t5 t6 s1 s2 s3 s4 s5 s6 he1 he2
              go_upto_region 26 with fail
              generalize wr = W7 at *
              go_cut [16, 17] from 78 to 87 (fun p q wx => InfV W7 ⟨nm, n, r, lenL l, sg⟩ p q wx)
              case first =>
                have HV := Lib.hid (HM7.out.later (Below.refl _ _).drew)
                have HN7 := Lib.hid ((Below.refl W7.heap.size W7).drew.keep n7)
                have HT0 : Hid (RI w (W7.alloc (.cells #[.string ⟨#[]⟩, .int .i64 0, .int .i64 0, .int .i64 0, .int .i64 0] 34)).drew W7.heap.size) := Lib.hid (RI.later (RI.new w W7 34 HM7.out.B) (Below.refl _ _).drew)
                have hAL : Below W7.drew.heap.size W7.drew (W7.alloc (.cells #[.string ⟨#[]⟩, .int .i64 0, .int .i64 0, .int .i64 0, .int .i64 0] 34)).drew := (Below.refl W7.drew.heap.size W7.drew).onAlloc (.cells #[.string ⟨#[]⟩, .int .i64 0, .int .i64 0, .int .i64 0, .int .i64 0] 34)
                have HAV := Lib.hid (HV.out.later hAL)
                have HAN := Lib.hid (hAL.keep HN7.out)
                have HAL := Lib.hid hAL
                clear hAL
                have h9d : W7.drew.heap.size = W7.heap.size := rfl
                go_region_held3 (fun w' => w'.cell? ⟨T, 0, none⟩ = some (.slice fa F.N fc) ∧ w'.cell? ⟨T, 1, none⟩ = some (.map fm) ∧ w'.cell? ⟨g, k, none⟩ = some (nmV nm) ∧ Below W7.drew.heap.size W7.drew w')
                  (first
                    | with_reducible exact ⟨HV.out.fb.c0, HV.out.fb.c1, HN7.out, Below.refl _ _⟩
                    | with_reducible exact ⟨HAV.out.fb.c0, HAV.out.fb.c1, HAN.out, HAL.out⟩
                    | with_reducible exact ⟨HP1.out.fb.c0, HP1.out.fb.c1, HP2.out, hW1⟩
                    | with_reducible exact ⟨HP3.out.fb.c0, HP3.out.fb.c1, HP4.out, hW2⟩
                    | with_reducible exact ⟨HP5.out.fb.c0, HP5.out.fb.c1, HP6.out, hW3⟩
                    | with_reducible exact ⟨HP7.out.fb.c0, HP7.out.fb.c1, HP8.out, hW4⟩)
                  (first
                    | (go_at_call 20; have hW := (‹_ ∧ _ ∧ _ ∧ Below W7.drew.heap.size W7.drew _›).2.2.2; refine (info_r F nm n r (lenL l) sg 0 _ nm _ HGD.out.1 HS9.out (HV.out.later hW).fam HNL.out HIF.out).mono ?_; rintro e v8 ⟨rfl, hb8⟩; have hW1 := hW.on hb8; have HP1 := Lib.hid (HV.out.later hW1); have HP2 := Lib.hid (hW1.keep HN7.out); have hW2 := hW1.onAlloc (.cells #[nmV nm, .int .i64 n, .int .i64 r, .int .i64 (lenL l), .int .i64 sg] 34); have HP3 := Lib.hid (HV.out.later hW2); have HP4 := Lib.hid (hW2.keep HN7.out); have hW3 := below_inf5 hW1 (T := W7.heap.size) (Nat.le_refl _) ⟨nm, n, r, lenL l, sg⟩; have HP5 := Lib.hid (HV.out.later hW3); have HP6 := Lib.hid (hW3.keep HN7.out); have hW4 := hW1.onAlloc (.cells #[.string ⟨#[]⟩, .int .i64 0, .int .i64 0, .int .i64 0, .int .i64 0] 34); have HP7 := Lib.hid (HV.out.later hW4); have HP8 := Lib.hid (hW4.keep HN7.out); (try (have HT3 := Lib.hid (HT0.out.later hb8); have t0 := HT3.out.r0; have t1 := HT3.out.r1; have t2 := HT3.out.r2; have t3 := HT3.out.r3; have t4 := HT3.out.r4; have s0 := HT3.out.f0; have s1 := HT3.out.f1; have s2 := HT3.out.f2; have s3 := HT3.out.f3; have s4 := HT3.out.f4))))
                · have h23 := (Below.refl W7.heap.size W7).drew.on hW1
                  have HQ : Hid (InfV W7 ⟨nm, n, r, lenL l, sg⟩ (.pointer (some ⟨v8.heap.size, 0, none⟩)) (.int .i64 0) (v8.alloc (.cells #[nmV nm, .int .i64 n, .int .i64 r, .int .i64 (lenL l), .int .i64 sg] 34))) :=
                    Lib.hid ⟨_, rfl, rfl, IT.new v8 _ rfl ⟨nm, n, r, lenL l, sg⟩ _, h23.onAlloc _⟩
                  clear h23 hW1 hW2 hW3 hW4 hb8 hW
                  go_wp2_with fail
                  go_meet
                  exact HQ.out
                · have h23 := (Below.refl W7.heap.size W7).drew.on hW1
                  have HQ : Hid (InfV W7 ⟨nm, n, r, lenL l, sg⟩ (.pointer (some ⟨W7.heap.size, 0, none⟩)) (.int .i64 0) (inf5 v8 W7.heap.size ⟨nm, n, r, lenL l, sg⟩)) :=
                    Lib.hid ⟨_, rfl, rfl, IT.of_ri HT3.out _, below_inf5 h23 (Nat.le_refl _) _⟩
                  clear h23 hW1 hW2 hW3 hW4 hb8 hW t0 t1 t2 t3 t4 s0 s1 s2 s3 s4
                  go_wp2_with fail
                  go_meet
                  exact HQ.out

              case rest =>
                obtain ⟨T8, rfl, rfl, hit, hb8⟩ := hcut
                obtain ⟨W8, rfl⟩ : ∃ W2 : World, W2 = wc := ⟨_, rfl⟩
                have HBE := Lib.hid (HBK.out.on hb8)
                have i3 := hit.t3
                have i4 := hit.t4
                have q1 := HQ1.out
                have q2 := HQ2.out
                clear hit hb8 n7
                go_wp2_with fail
                go_roundw
                case rel => exact ⟨k + 1, by omega, by go_num, by rw [HF1.out]; first | (go_num; done) | (rw [HQ1.out]; congr 1; omega) | (congr 1; omega), by rw [HF2.out]; first | (go_num; done) | (rw [HQ2.out]; congr 1; omega) | (congr 1; omega), HBE.out⟩
                case measure => simp [intOf]; omega
            · obtain rfl : k = F.vs.length := by omega
              have h0 := HNZ9.out
              have h1 : mapsN (fun v => lenL v.l) F.vs F.vs.length - mapsN (fun v => lenL v.l) F.vs F.vs.length = 0 := by omega
              have h2 : mapsN (fun v => singleC F.C v.l) F.vs F.vs.length - mapsN (fun v => singleC F.C v.l) F.vs F.vs.length = 0 := by omega
              have h0' : zt - lenL Z = 0 := by rw [List.take_length] at h0; exact h0
              have HBF := Lib.hid HM7.out.B
              clear hB
              go_wp2_with fail
              go_ret
              exact ⟨rfl, HBF.out⟩
end Go.Proofs.YtpakjddfnhnndaaGreat
