/-
  tegulalaw37: example, awake; the walks of ThinNumbers and ThinPermits.
  The walks of the laws ThinNeed and ThinPermits.
  The walk of the law ThinReserved.
  The walk of the law ThinSound.
  The walk of the law ThinFull.
  Conditions: as each theorem says.
-/
import Derived.Test.YtpakjddfnhnndaaGreatGK
import Derived.Test.YtpakjddfnhnndaaGreatGJ
import Derived.Test.YtpakjddfnhnndaaGreatFcW
import Derived.Test.YtpakjddfnhnndaaGreatGI
namespace Go.Proofs.YtpakjddfnhnndaaGreat
set_option linter.unusedSimpArgs false
set_option linter.unusedVariables false
set_option maxRecDepth 100000
open Go.RowKit Go.Maps

def ex1 : Fam := ⟨10, []⟩
def ex2 : Fam := ⟨10, [⟨na, 8, 6, []⟩]⟩
def ex3 : Fam := ⟨10, [⟨na, 8, 6, [⟨0, 2, 3⟩]⟩]⟩
theorem ex_12 : createF ex1 na 8 6 = (ex2, 0) := rfl
theorem ex_23 : assignF ex2 na ⟨0, 2, 3⟩ = (ex3, [], 0) := by
  have h : freedF ex2 ex3 = [] := aw_free _ _ rfl
  rw [show assignF ex2 na ⟨0, 2, 3⟩ = (ex3, freedF ex2 ex3, 0) from rfl, h]
theorem ex_ok1 : ex1.ok := ⟨by decide, List.Pairwise.nil, by decide, by simp [ex1]⟩
theorem ex_ok2 : ex2.ok := by have := ok_create ex_ok1 na 8 6; rwa [ex_12] at this
theorem ex_ok3 : ex3.ok := by have := ok_assign ex_ok2 na ⟨0, 2, 3⟩; rwa [ex_23] at this
theorem ex_s2 : ∀ v ∈ ex2.vs, v.l.length ≤ 9000 := by decide
theorem ex_s3 : ∀ v ∈ ex3.vs, v.l.length ≤ 9000 := by decide
theorem ex_claim : claimF ex3 na = (4, 0) := rfl
theorem ex_need : needF ex3 na 1 3 = (2, 0) := rfl
theorem ex_claims : claimsF ex3 = 4 := rfl
theorem ex_room : roomF ex3 = 4 := rfl
theorem ex_c1 : canCreateF ex3 4 4 = 0 := rfl
theorem ex_c2 : canCreateF ex3 9 5 = 11 := rfl
theorem ex_c3 : canCloneF ex3 na = 0 := rfl
theorem ex_c4 : canWriteF ex3 nb 0 1 = 9 := rfl
set_option maxHeartbeats 8000000 in
theorem example_is (w : World) : Calls Tryz.prog 89 #[] w (FamOut w ex3) := by
  have HR := Lib.hid (Bx.new w _ rfl (.slice none 0 0) (.map none) 28)
  have HB := Lib.hid ((Below.refl w.heap.size w).onAlloc (.cells #[.slice none 0 0, .map none] 28))
  go_enter Tryz.func89, Tryz.ntmps89
  go_wp2_with fail
  refine (fnew_yes 10 _ (by omega)).mono ?_
  rintro e w1 ⟨fv, rfl, hf, hb⟩
  have hf : FamV w1 fv ex1 := hf
  obtain ⟨a1, c1, m1, rfl⟩ := hf.form
  have hk := (Below.refl w1.heap.size w1).onAlloc (.cells #[.slice a1 ex1.N c1, .map m1] 28)
  have HA := Lib.hid (AwS.new hf (HB.out.on hb))
  have HR := Lib.hid ((HR.out.later hb).later hk)
  have HT : Hid (w.heap.size < w1.heap.size) := Lib.hid (by have := hb.size; simp only [World.size_alloc] at this; omega)
  clear hf hb hk
  have b0 := HA.out.bx.c0
  have b1 := HA.out.bx.c1
  have f0 := HA.out.bx.f0
  have f1 := HA.out.bx.f1
  go_wp2_with fail
  generalize w1.heap.size = T at *
  refine (create_r ex1 ex2 0 _ na 8 6 _ ex_ok1 HA.out.fam na_max ex_12).mono ?_
  rintro e w2 ⟨fv, rfl, hf, hb⟩
  obtain ⟨a2, c2, m2, rfl⟩ := hf.form
  have HA := Lib.hid (HA.out.later hb)
  have HR := Lib.hid ((HR.out.later hb).far (R := T) (by have := HT.out; omega) (.slice a2 ex2.N c2) (.map m2))
  clear hb b0 b1 f0 f1
  (try clear q0 q1)
  have b0 := HA.out.bx.c0
  have b1 := HA.out.bx.c1
  have f0 := HA.out.bx.f0
  have f1 := HA.out.bx.f1
  have HA := Lib.hid (HA.out.put hf)
  clear hf
  have q0 := HA.out.bx.c0
  have q1 := HA.out.bx.c1
  go_wp2_with fail
  refine (assign_r ex2 ex3 [] 0 _ na ⟨0, 2, 3⟩ _ ex_ok2 ex_s2 HA.out.fam na_max (by simp [E.wf]) ex_23).mono ?_
  rintro e w3 ⟨fv, sv, rfl, hf, _, hb⟩
  obtain ⟨a3, c3, m3, rfl⟩ := hf.form
  have HA := Lib.hid (HA.out.later hb)
  have HR := Lib.hid ((HR.out.later hb).far (R := T) (by have := HT.out; omega) (.slice a3 ex3.N c3) (.map m3))
  clear hb b0 b1 f0 f1
  (try clear q0 q1)
  have b0 := HA.out.bx.c0
  have b1 := HA.out.bx.c1
  have f0 := HA.out.bx.f0
  have f1 := HA.out.bx.f1
  have HA := Lib.hid (HA.out.put hf)
  clear hf
  have q0 := HA.out.bx.c0
  have q1 := HA.out.bx.c1
  have r0 := HR.out.c0
  have r1 := HR.out.c1
  have r2 := HR.out.f0
  have r3 := HR.out.f1
  have HF9 := Lib.hid (HR.out.famV (x := .slice a3 ex3.N c3) (y := .map m3) famTy HA.out.fam)
  have HB9 := Lib.hid ((HA.out.B.setCell (p := ⟨w.heap.size, 0, none⟩) (Nat.le_refl _) (.slice a3 ex3.N c3)).setCell (p := ⟨w.heap.size, 1, none⟩) (Nat.le_refl _) (.map m3))
  have j0 := (HR.out.put (.slice a3 ex3.N c3) (.map m3)).c0
  have j1 := (HR.out.put (.slice a3 ex3.N c3) (.map m3)).c1
  go_wp2_with fail
  (try simp only [Exit.inBlock, Exit.then])
  refine bodyPost_ret (v := .agg #[.slice a3 ex3.N c3, .map m3]) (by first | (rw [results_cell_tmp rfl]; go_simp; done) | (rw [results_cell_tmp2 rfl]; go_simp; done) | (rw [results_cell_one rfl]; go_simp; done)) rfl ?_
  exact ⟨_, rfl, HF9.out, HB9.out⟩
set_option maxHeartbeats 8000000 in
theorem awake37_any (w : World) : Calls Tryz.prog 39 #[] w fun e w' => e = .returned (.bool true) ∧ Below w.heap.size w w' := by
  go_enter Tryz.func39, Tryz.ntmps39
  go_wp2_with fail
  refine (example_is _).mono ?_
  rintro e w1 ⟨fv, rfl, hf, hb⟩
  obtain ⟨a1, c1, m1, rfl⟩ := hf.form
  have HA := Lib.hid (AwS.new hf hb)
  clear hf hb
  have b0 := HA.out.bx.c0
  have b1 := HA.out.bx.c1
  have f0 := HA.out.bx.f0
  have f1 := HA.out.bx.f1
  go_wp2_with fail
  refine (tclaim_is ex3 4 0 _ na _ ex_ok3 ex_s3 HA.out.fam na_max ex_claim).mono ?_
  rintro e w2 ⟨rfl, hb⟩
  have HA := Lib.hid (HA.out.later hb)
  clear hb b0 b1 f0 f1
  have b0 := HA.out.bx.c0
  have b1 := HA.out.bx.c1
  have f0 := HA.out.bx.f0
  have f1 := HA.out.bx.f1
  go_wp2_with fail
  refine (tneed_is ex3 2 0 _ na 1 3 _ ex_ok3 ex_s3 HA.out.fam na_max (by omega) (by omega) ex_need).mono ?_
  rintro e w3 ⟨rfl, hb⟩
  have HA := Lib.hid (HA.out.later hb)
  clear hb b0 b1 f0 f1
  have b0 := HA.out.bx.c0
  have b1 := HA.out.bx.c1
  have f0 := HA.out.bx.f0
  have f1 := HA.out.bx.f1
  go_wp2_with fail
  refine (tclaims_is ex3 4 _ _ ex_ok3 ex_s3 HA.out.fam ex_claims).mono ?_
  rintro e w4 ⟨rfl, hb⟩
  have HA := Lib.hid (HA.out.later hb)
  clear hb b0 b1 f0 f1
  have b0 := HA.out.bx.c0
  have b1 := HA.out.bx.c1
  have f0 := HA.out.bx.f0
  have f1 := HA.out.bx.f1
  go_wp2_with fail
  refine (troom_is ex3 4 _ _ ex_ok3 ex_s3 HA.out.fam ex_room).mono ?_
  rintro e w5 ⟨rfl, hb⟩
  have HA := Lib.hid (HA.out.later hb)
  clear hb b0 b1 f0 f1
  have b0 := HA.out.bx.c0
  have b1 := HA.out.bx.c1
  have f0 := HA.out.bx.f0
  have f1 := HA.out.bx.f1
  go_wp2_with fail
  refine (tcreate_is ex3 0 _ 4 4 _ ex_ok3 ex_s3 HA.out.fam ex_c1).mono ?_
  rintro e w6 ⟨rfl, hb⟩
  have HA := Lib.hid (HA.out.later hb)
  clear hb b0 b1 f0 f1
  have b0 := HA.out.bx.c0
  have b1 := HA.out.bx.c1
  have f0 := HA.out.bx.f0
  have f1 := HA.out.bx.f1
  go_wp2_with fail
  refine (tcreate_is ex3 11 _ 9 5 _ ex_ok3 ex_s3 HA.out.fam ex_c2).mono ?_
  rintro e w7 ⟨rfl, hb⟩
  have HA := Lib.hid (HA.out.later hb)
  clear hb b0 b1 f0 f1
  have b0 := HA.out.bx.c0
  have b1 := HA.out.bx.c1
  have f0 := HA.out.bx.f0
  have f1 := HA.out.bx.f1
  go_wp2_with fail
  refine (tclone_is ex3 0 _ na _ ex_ok3 ex_s3 HA.out.fam na_max ex_c3).mono ?_
  rintro e w8 ⟨rfl, hb⟩
  have HA := Lib.hid (HA.out.later hb)
  clear hb b0 b1 f0 f1
  have b0 := HA.out.bx.c0
  have b1 := HA.out.bx.c1
  have f0 := HA.out.bx.f0
  have f1 := HA.out.bx.f1
  go_wp2_with fail
  refine (twrite_is ex3 9 _ nb 0 1 _ ex_ok3 ex_s3 HA.out.fam nb_max (by omega) (by omega) ex_c4).mono ?_
  rintro e w9 ⟨rfl, hb⟩
  have hB := (HA.out.later hb).B
  clear hb b0 b1 f0 f1
  go_wp2_with fail
  go_ret
  exact ⟨rfl, hB⟩
set_option maxHeartbeats 8000000 in
theorem law_numbers37 (i : Int) (S : List Step36) (a : Option Addr) (c : Nat) (w : World) (hi : 0 ≤ i ∧ i ≤ 255) (hr : RdS36 w a S) :
    Calls Tryz.prog 10 #[.int .u8 i, .slice a S.length c] w fun e w' => e = .returned (.bool true) ∧ Below w.heap.size w w' := by
  obtain ⟨n, rfl⟩ := Int.eq_ofNat_of_zero_le hi.1
  have hn : n ≤ 255 := by omega
  have hlen := hr.1
  by_cases h25 : 20 < S.length
  · go_enter Tryz.func10, Tryz.ntmps10
    go_wp2_with fail
    refine (awake37_any _).mono ?_
    rintro e w1 ⟨rfl, hb1⟩
    go_wp2_with fail
    go_ret
    exact ⟨rfl, by first | exact hb1 | exact HK0.out.on hb1⟩
  go_enter Tryz.func10, Tryz.ntmps10
  go_wp2_with fail
  refine (awake37_any _).mono ?_
  rintro e w1 ⟨rfl, hb1⟩
  go_wp2_with fail
  refine (build37_is n S a c _ hn (hr.keep hb1)).mono ?_
  rintro e w2 ⟨F, fv, gv, rfl, hgd, hFN, hf, hg, hb2⟩
  obtain ⟨fa, fc, fm, rfl⟩ := hf.form
  obtain ⟨ra, rn, rc, rfl⟩ := hg.form
  have HL := Lib.hid (LB.new hf hg (hb1.on hb2))
  have HBW := Lib.hid (hb1.on hb2)
  have HGD := Lib.hid hgd
  have HS9 := Lib.hid (small_short hgd.1 hgd.2)
  have hm50 : F.N < 50 := by rw [hFN]; omega
  clear hgd hFN hf hg hb1 hb2 hr
  go_wp2_with fail
  generalize (w2.alloc (.cells #[.slice fa F.N fc, .map fm] 28)).alloc (.cells #[.int .i64 F.N, .slice ra rn rc] 45) = W0 at *
  generalize w2.heap.size = T at *
  go_loopw [7] (fun i wr => ∃ k : Nat, k ≤ 6 ∧ i = .int .i64 k ∧ Below W0.heap.size W0 wr) (fun i _ => 6 - (intOf i).toNat)
  case atStart => exact ⟨0, by omega, rfl, Below.refl _ _⟩
  case round =>
    obtain ⟨k, hk, rfl, hB⟩ := hrel
    have HM := Lib.hid (HL.out.later hB)
    have HB0 := Lib.hid hB
    by_cases hlt : k < 6
    · obtain ⟨nm, hnm, hnl⟩ : ∃ nm, nameN (k : Int) = nm ∧ nm.length ≤ maxLen := ⟨_, rfl, nameN_max _⟩
      have HNM := Lib.hid hnm
      obtain ⟨x1, x2, hcl⟩ : ∃ x y, claimF F nm = (x, y) := ⟨_, _, rfl⟩
      have HCL := Lib.hid hcl
      clear hB hnm hcl
      have b0 := HM.out.fb.c0
      have b1 := HM.out.fb.c1
      have c0 := HM.out.gb.c0
      have c1 := HM.out.gb.c1
      go_wp2_with fail
      refine (rnames_r k nm _ (by omega) HNM.out).mono ?_
      rintro e v1 ⟨rfl, hb⟩
      have HM := Lib.hid (HM.out.later hb)
      have HB0 := Lib.hid (HB0.out.on hb)
      clear hb b0 b1 c0 c1
      have b0 := HM.out.fb.c0
      have b1 := HM.out.fb.c1
      have c0 := HM.out.gb.c0
      have c1 := HM.out.gb.c1
      go_wp2_with fail
      refine (tclaim_is F x1 x2 _ nm _ HGD.out.1 HS9.out HM.out.fam hnl HCL.out).mono ?_
      rintro e v2 ⟨rfl, hb⟩
      have HM := Lib.hid (HM.out.later hb)
      have HB0 := Lib.hid (HB0.out.on hb)
      clear hb b0 b1 c0 c1
      have b0 := HM.out.fb.c0
      have b1 := HM.out.fb.c1
      have c0 := HM.out.gb.c0
      have c1 := HM.out.gb.c1
      go_wp2_with fail
      refine (qclaim_is F x1 x2 _ nm _ HGD.out.1 HM.out.famr hnl HCL.out).mono ?_
      rintro e v3 ⟨rfl, hb⟩
      have HB0 := Lib.hid (HB0.out.on hb)
      clear hb b0 b1 c0 c1
      go_wp2_with fail
      go_roundw
      case rel => exact ⟨k + 1, by omega, by go_num, HB0.out⟩
      case measure => simp [intOf]; omega
    · obtain rfl : k = 6 := by omega
      obtain ⟨cl, hcl⟩ : ∃ x, claimsF F = x := ⟨_, rfl⟩
      obtain ⟨rm, hrm⟩ : ∃ x, roomF F = x := ⟨_, rfl⟩
      have HCL := Lib.hid hcl
      have HRM := Lib.hid hrm
      clear hcl hrm
      have b0 := HM.out.fb.c0
      have b1 := HM.out.fb.c1
      have c0 := HM.out.gb.c0
      have c1 := HM.out.gb.c1
      go_upto_region 14 with fail
      refine wp_region_next (by kernel_rfl) (by kernel_rfl) ?_
      repeat (go_big_quiet_step ((first | (go_at_call 43; exact Calls.next_of (tclaims_is F cl _ _ HGD.out.1 HS9.out (HM.out.fam.keep (World.below_next _ _)) HCL.out)) | (go_at_call 44; exact Calls.next_of (qclaims_is F cl _ _ HGD.out.1 (HM.out.famr.keep (World.below_next _ _)) HCL.out)) | (go_at_call 45; exact Calls.next_of (troom_is F rm _ _ HGD.out.1 HS9.out (HM.out.fam.keep (World.below_next _ _)) HRM.out)) | (go_at_call 46; exact Calls.next_of (qroom_is F rm _ _ HGD.out.1 (HM.out.famr.keep (World.below_next _ _)) HRM.out)))))
      refine wpQuiet_nil ?_
      intro _ hw'
      obtain ⟨nq, hw''⟩ := hw'
      subst hw''

      have hB9 := (HM.out.later (World.below_next _ nq)).B
      clear b0 b1 c0 c1
      go_wp2_with fail
      go_ret
      exact ⟨rfl, hB9⟩
end Go.Proofs.YtpakjddfnhnndaaGreat

namespace Go.Proofs.YtpakjddfnhnndaaGreat
set_option linter.unusedSimpArgs false
set_option linter.unusedVariables false
set_option maxRecDepth 100000
open Go.RowKit Go.Maps

set_option maxHeartbeats 8000000 in
theorem law_need37 (i : Int) (S : List Step36) (p q : Int) (a : Option Addr) (c : Nat) (w : World) (hi : 0 ≤ i ∧ i ≤ 255) (hr : RdS36 w a S) (hp : -9223372036854775808 ≤ p ∧ p ≤ 9223372036854775807) (hq : -9223372036854775808 ≤ q ∧ q ≤ 9223372036854775807) :
    Calls Tryz.prog 11 #[.int .u8 i, .slice a S.length c, .agg #[.int .i64 p, .int .i64 q]] w fun e w' => e = .returned (.bool true) ∧ Below w.heap.size w w' := by
  have hk0 := (Below.refl w.heap.size w).onAlloc (.cells #[.int .i64 p, .int .i64 q] 74)
  have HK0 := Lib.hid hk0
  replace hr := hr.keep hk0
  have HPB := Lib.hid (Bx.new w _ rfl (.int .i64 p) (.int .i64 q) 74)
  clear hk0
  obtain ⟨n, rfl⟩ := Int.eq_ofNat_of_zero_le hi.1
  have hn : n ≤ 255 := by omega
  have hlen := hr.1
  by_cases h25 : 20 < S.length
  · go_enter Tryz.func11, Tryz.ntmps11
    go_wp2_with fail
    refine (awake37_any _).mono ?_
    rintro e w1 ⟨rfl, hb1⟩
    go_wp2_with fail
    go_ret
    exact ⟨rfl, by first | exact hb1 | exact HK0.out.on hb1⟩
  go_enter Tryz.func11, Tryz.ntmps11
  go_wp2_with fail
  refine (awake37_any _).mono ?_
  rintro e w1 ⟨rfl, hb1⟩
  go_wp2_with fail
  refine (build37_is n S a c _ hn (hr.keep hb1)).mono ?_
  rintro e w2 ⟨F, fv, gv, rfl, hgd, hFN, hf, hg, hb2⟩
  obtain ⟨fa, fc, fm, rfl⟩ := hf.form
  obtain ⟨ra, rn, rc, rfl⟩ := hg.form
  have HL := Lib.hid (LB.new hf hg (hb1.on hb2))
  have HBW := Lib.hid (hb1.on hb2)
  have HGD := Lib.hid hgd
  have HS9 := Lib.hid (small_short hgd.1 hgd.2)
  have hm50 : F.N < 50 := by rw [hFN]; omega
  clear hgd hFN hf hg hb1 hb2 hr
  go_wp2_with fail
  have hPB := HPB.out.later HL.out.B
  generalize (w2.alloc (.cells #[.slice fa F.N fc, .map fm] 28)).alloc (.cells #[.int .i64 F.N, .slice ra rn rc] 45) = W0 at *
  generalize w2.heap.size = T at *
  have HP0 := Lib.hid hPB
  clear hPB
  go_loopw [9] (fun i wr => ∃ k : Nat, k ≤ 6 ∧ i = .int .i64 k ∧ Below W0.heap.size W0 wr) (fun i _ => 6 - (intOf i).toNat)
  case atStart => exact ⟨0, by omega, rfl, Below.refl _ _⟩
  case round =>
    obtain ⟨k, hk, rfl, hB⟩ := hrel
    by_cases hlt : k < 6
    · have HM := Lib.hid (HL.out.later hB)
      have HP := Lib.hid (HP0.out.later hB)
      have HB0 := Lib.hid hB
      obtain ⟨nm, hnm, hnl⟩ : ∃ nm, nameN (k : Int) = nm ∧ nm.length ≤ maxLen := ⟨_, rfl, nameN_max _⟩
      have HNM := Lib.hid hnm
      obtain ⟨x1, x2, hnd⟩ : ∃ x y, needF F nm p q = (x, y) := ⟨_, _, rfl⟩
      obtain ⟨x3, hcw⟩ : ∃ x, canWriteF F nm p q = x := ⟨_, rfl⟩
      have HND := Lib.hid hnd
      have HCW := Lib.hid hcw
      clear hB hnm hnd hcw
      have b0 := HM.out.fb.c0
      have b1 := HM.out.fb.c1
      have c0 := HM.out.gb.c0
      have c1 := HM.out.gb.c1
      have p0 := HP.out.c0
      have p1 := HP.out.c1
      go_wp2_with fail
      refine (rnames_r k nm _ (by omega) HNM.out).mono ?_
      rintro e v1 ⟨rfl, hb⟩
      have HM := Lib.hid (HM.out.later hb)
      have HB0 := Lib.hid (HB0.out.on hb)
      have HP := Lib.hid (HP.out.later hb)
      clear hb b0 b1 c0 c1 p0 p1
      have b0 := HM.out.fb.c0
      have b1 := HM.out.fb.c1
      have c0 := HM.out.gb.c0
      have c1 := HM.out.gb.c1
      have p0 := HP.out.c0
      have p1 := HP.out.c1
      go_wp2_with fail
      refine (tneed_is F x1 x2 _ nm p q _ HGD.out.1 HS9.out HM.out.fam hnl hp hq HND.out).mono ?_
      rintro e v2 ⟨rfl, hb⟩
      have HM := Lib.hid (HM.out.later hb)
      have HB0 := Lib.hid (HB0.out.on hb)
      have HP := Lib.hid (HP.out.later hb)
      clear hb b0 b1 c0 c1 p0 p1
      have b0 := HM.out.fb.c0
      have b1 := HM.out.fb.c1
      have c0 := HM.out.gb.c0
      have c1 := HM.out.gb.c1
      have p0 := HP.out.c0
      have p1 := HP.out.c1
      go_wp2_with fail
      refine (qneed_is F x1 x2 _ nm p q _ HGD.out.1 HS9.out HM.out.famr hnl HND.out).mono ?_
      rintro e v3 ⟨rfl, hb⟩
      have HM := Lib.hid (HM.out.later hb)
      have HB0 := Lib.hid (HB0.out.on hb)
      have HP := Lib.hid (HP.out.later hb)
      clear hb b0 b1 c0 c1 p0 p1
      have b0 := HM.out.fb.c0
      have b1 := HM.out.fb.c1
      have c0 := HM.out.gb.c0
      have c1 := HM.out.gb.c1
      have p0 := HP.out.c0
      have p1 := HP.out.c1
      go_upto_region 12 with fail
      refine wp_region_next (by kernel_rfl) (by kernel_rfl) ?_
      repeat (go_big_quiet_step ((first | (go_at_call 49; exact Calls.next_of (twrite_is F x3 _ nm p q _ HGD.out.1 HS9.out (HM.out.fam.keep (World.below_next _ _)) hnl hp hq HCW.out)) | (go_at_call 50; exact Calls.next_of (qwrite_is F x3 _ nm p q _ HGD.out.1 HS9.out (HM.out.famr.keep (World.below_next _ _)) hnl HCW.out)))))
      refine wpQuiet_nil ?_
      intro _ hw'
      obtain ⟨nq, hw''⟩ := hw'
      subst hw''
      have HB0 := Lib.hid (HB0.out.on (World.below_next _ nq))
      clear b0 b1 c0 c1 p0 p1
      go_wp2_with fail
      go_roundw
      case rel => exact ⟨k + 1, by omega, by go_num, HB0.out⟩
      case measure => simp [intOf]; omega
    · obtain rfl : k = 6 := by omega
      have hB9 := HK0.out.on (HL.out.B.on hB)
      go_wp2_with fail
      go_ret
      exact ⟨rfl, hB9⟩
set_option maxHeartbeats 8000000 in
theorem law_permits37 (i : Int) (S : List Step36) (p q : Int) (a : Option Addr) (c : Nat) (w : World) (hi : 0 ≤ i ∧ i ≤ 255) (hr : RdS36 w a S) :
    Calls Tryz.prog 12 #[.int .u8 i, .slice a S.length c, .agg #[.int .i64 p, .int .i64 q]] w fun e w' => e = .returned (.bool true) ∧ Below w.heap.size w w' := by
  have hk0 := (Below.refl w.heap.size w).onAlloc (.cells #[.int .i64 p, .int .i64 q] 74)
  have HK0 := Lib.hid hk0
  replace hr := hr.keep hk0
  have HPB := Lib.hid (Bx.new w _ rfl (.int .i64 p) (.int .i64 q) 74)
  clear hk0
  obtain ⟨n, rfl⟩ := Int.eq_ofNat_of_zero_le hi.1
  have hn : n ≤ 255 := by omega
  have hlen := hr.1
  by_cases h25 : 20 < S.length
  · go_enter Tryz.func12, Tryz.ntmps12
    go_wp2_with fail
    refine (awake37_any _).mono ?_
    rintro e w1 ⟨rfl, hb1⟩
    go_wp2_with fail
    go_ret
    exact ⟨rfl, by first | exact hb1 | exact HK0.out.on hb1⟩
  go_enter Tryz.func12, Tryz.ntmps12
  go_wp2_with fail
  refine (awake37_any _).mono ?_
  rintro e w1 ⟨rfl, hb1⟩
  go_wp2_with fail
  refine (build37_is n S a c _ hn (hr.keep hb1)).mono ?_
  rintro e w2 ⟨F, fv, gv, rfl, hgd, hFN, hf, hg, hb2⟩
  obtain ⟨fa, fc, fm, rfl⟩ := hf.form
  obtain ⟨ra, rn, rc, rfl⟩ := hg.form
  have HL := Lib.hid (LB.new hf hg (hb1.on hb2))
  have HBW := Lib.hid (hb1.on hb2)
  have HGD := Lib.hid hgd
  have HS9 := Lib.hid (small_short hgd.1 hgd.2)
  have hm50 : F.N < 50 := by rw [hFN]; omega
  clear hgd hFN hf hg hb1 hb2 hr
  go_wp2_with fail
  have hPB := HPB.out.later HL.out.B
  generalize (w2.alloc (.cells #[.slice fa F.N fc, .map fm] 28)).alloc (.cells #[.int .i64 F.N, .slice ra rn rc] 45) = W0 at *
  generalize w2.heap.size = T at *
  have HP0 := Lib.hid hPB
  clear hPB
  go_loopw [9] (fun i wr => ∃ k : Nat, k ≤ 6 ∧ i = .int .i64 k ∧ Below W0.heap.size W0 wr) (fun i _ => 6 - (intOf i).toNat)
  case atStart => exact ⟨0, by omega, rfl, Below.refl _ _⟩
  case round =>
    obtain ⟨k, hk, rfl, hB⟩ := hrel
    have HM := Lib.hid (HL.out.later hB)
    have HP := Lib.hid (HP0.out.later hB)
    have HB0 := Lib.hid hB
    by_cases hlt : k < 6
    · obtain ⟨nm, hnm, hnl⟩ : ∃ nm, nameN (k : Int) = nm ∧ nm.length ≤ maxLen := ⟨_, rfl, nameN_max _⟩
      have HNM := Lib.hid hnm
      obtain ⟨x3, hcw⟩ : ∃ x, canCloneF F nm = x := ⟨_, rfl⟩
      have HCW := Lib.hid hcw
      clear hB hnm hcw
      have b0 := HM.out.fb.c0
      have b1 := HM.out.fb.c1
      have c0 := HM.out.gb.c0
      have c1 := HM.out.gb.c1
      have p0 := HP.out.c0
      have p1 := HP.out.c1
      go_wp2_with fail
      refine (rnames_r k nm _ (by omega) HNM.out).mono ?_
      rintro e v1 ⟨rfl, hb⟩
      have HM := Lib.hid (HM.out.later hb)
      have HB0 := Lib.hid (HB0.out.on hb)
      have HP := Lib.hid (HP.out.later hb)
      clear hb b0 b1 c0 c1 p0 p1
      have b0 := HM.out.fb.c0
      have b1 := HM.out.fb.c1
      have c0 := HM.out.gb.c0
      have c1 := HM.out.gb.c1
      have p0 := HP.out.c0
      have p1 := HP.out.c1
      go_upto_region 10 with fail
      refine wp_region_next (by kernel_rfl) (by kernel_rfl) ?_
      repeat (go_big_quiet_step ((first | (go_at_call 51; exact Calls.next_of (tclone_is F x3 _ nm _ HGD.out.1 HS9.out (HM.out.fam.keep (World.below_next _ _)) hnl HCW.out)) | (go_at_call 52; exact Calls.next_of (qclone_is F x3 _ nm _ HGD.out.1 (HM.out.famr.keep (World.below_next _ _)) hnl HCW.out)))))
      refine wpQuiet_nil ?_
      intro _ hw'
      obtain ⟨nq, hw''⟩ := hw'
      subst hw''
      have HB0 := Lib.hid (HB0.out.on (World.below_next _ nq))
      clear b0 b1 c0 c1 p0 p1
      go_wp2_with fail
      go_roundw
      case rel => exact ⟨k + 1, by omega, by go_num, HB0.out⟩
      case measure => simp [intOf]; omega
    · obtain rfl : k = 6 := by omega
      obtain ⟨x3, hcw⟩ : ∃ x, canCreateF F p q = x := ⟨_, rfl⟩
      have HCW := Lib.hid hcw
      clear hcw
      have b0 := HM.out.fb.c0
      have b1 := HM.out.fb.c1
      have c0 := HM.out.gb.c0
      have c1 := HM.out.gb.c1
      have p0 := HP.out.c0
      have p1 := HP.out.c1
      go_upto_region 12 with fail
      refine wp_region_next (by kernel_rfl) (by kernel_rfl) ?_
      repeat (go_big_quiet_step ((first | (go_at_call 53; exact Calls.next_of (tcreate_is F x3 _ p q _ HGD.out.1 HS9.out (HM.out.fam.keep (World.below_next _ _)) HCW.out)) | (go_at_call 54; exact Calls.next_of (qcreate_is F x3 _ p q _ HGD.out.1 (HM.out.famr.keep (World.below_next _ _)) HCW.out)))))
      refine wpQuiet_nil ?_
      intro _ hw'
      obtain ⟨nq, hw''⟩ := hw'
      subst hw''
      have hB9 := HK0.out.on ((HM.out.later (World.below_next _ nq)).B)
      clear b0 b1 c0 c1 p0 p1
      go_wp2_with fail
      go_ret
      exact ⟨rfl, hB9⟩
end Go.Proofs.YtpakjddfnhnndaaGreat

namespace Go.Proofs.YtpakjddfnhnndaaGreat
set_option linter.unusedSimpArgs false
set_option linter.unusedVariables false
set_option maxRecDepth 100000
open Go.RowKit Go.Maps

set_option maxHeartbeats 8000000 in
theorem law_reserved37 (i : Int) (S : List Step36) (p q : Int) (a : Option Addr) (c : Nat) (w : World) (hi : 0 ≤ i ∧ i ≤ 255) (hr : RdS36 w a S) (hp : 0 ≤ p ∧ p ≤ 255) (hq : 0 ≤ q ∧ q ≤ 255) :
    Calls Tryz.prog 13 #[.int .u8 i, .slice a S.length c, .agg #[.int .u8 p, .int .u8 q]] w fun e w' => e = .returned (.bool true) ∧ Below w.heap.size w w' := by
  have hk0 := (Below.refl w.heap.size w).onAlloc (.cells #[.int .u8 p, .int .u8 q] 93)
  have HK0 := Lib.hid hk0
  replace hr := hr.keep hk0
  have HPB := Lib.hid (Bx.new w _ rfl (.int .u8 p) (.int .u8 q) 93)
  clear hk0
  obtain ⟨p1, p2⟩ := hp
  obtain ⟨q1, q2⟩ := hq
  obtain ⟨n, rfl⟩ := Int.eq_ofNat_of_zero_le hi.1
  have hn : n ≤ 255 := by omega
  have hlen := hr.1
  by_cases h25 : 20 < S.length
  · go_enter Tryz.func13, Tryz.ntmps13
    go_wp2_with fail
    refine (awake37_any _).mono ?_
    rintro e w1 ⟨rfl, hb1⟩
    go_wp2_with fail
    go_ret
    exact ⟨rfl, by first | exact hb1 | exact HK0.out.on hb1⟩
  go_enter Tryz.func13, Tryz.ntmps13
  go_wp2_with fail
  refine (awake37_any _).mono ?_
  rintro e w1 ⟨rfl, hb1⟩
  go_wp2_with fail
  refine (build37_is n S a c _ hn (hr.keep hb1)).mono ?_
  rintro e w2 ⟨F, fv, gv, rfl, hgd, hFN, hf, hg, hb2⟩
  obtain ⟨fa, fc, fm, rfl⟩ := hf.form
  obtain ⟨ra, rn, rc, rfl⟩ := hg.form
  have HL := Lib.hid (LB.new hf hg (hb1.on hb2))
  have HBW := Lib.hid (hb1.on hb2)
  have HGD := Lib.hid hgd
  have HS9 := Lib.hid (small_short hgd.1 hgd.2)
  have hm50 : F.N < 50 := by rw [hFN]; omega
  clear hgd hFN hf hg hb1 hb2 hr
  go_wp2_with fail
  have hPB := HPB.out.later HL.out.B
  generalize (w2.alloc (.cells #[.slice fa F.N fc, .map fm] 28)).alloc (.cells #[.int .i64 F.N, .slice ra rn rc] 45) = W0 at *
  generalize w2.heap.size = T at *
  have HP0 := Lib.hid hPB
  clear hPB
  obtain ⟨a2, c2, ts, he, hr2, hl2, hts, _⟩ := HL.out.famr
  obtain ⟨rfl, rfl, rfl⟩ : ra = a2 ∧ rn = ts.length ∧ rc = c2 := by
    injection he with he
    have h1 := congrArg Array.toList he
    simp at h1
    exact h1
  have HR := Lib.hid hr2
  have HTS := Lib.hid hts
  have h32 := (fit_len HGD.out.1 hts).2
  clear he hr2 hl2 hts
  go_loopw [9] (fun i wr => ∃ k : Nat, k ≤ ts.length ∧ i = .int .i64 k ∧ Below W0.heap.size W0 wr) (fun i _ => ts.length - (intOf i).toNat)
  case atStart => exact ⟨0, by omega, rfl, Below.refl _ _⟩
  case round =>
    obtain ⟨k, hk, rfl, hB⟩ := hrel
    have HM := Lib.hid (HL.out.later hB)
    have HP := Lib.hid (HP0.out.later hB)
    have HB0 := Lib.hid hB
    have c0 := HM.out.gb.c0
    have c1 := HM.out.gb.c1
    by_cases hlt : k < ts.length
    · obtain ⟨b, o, rfl, hat⟩ := (HR.out.keep hB).at (by omega)
      obtain ⟨e0, e1, e2, e3⟩ := hat k _ (List.getElem?_eq_getElem hlt)
      have hmem : ts[k].vol ∈ F.vs := by rw [← HTS.out]; exact List.mem_map_of_mem (List.getElem_mem hlt)
      generalize ts[k] = y at *
      have hok := HGD.out.1.vol _ hmem
      have n1 : 1 ≤ y.n := hok.n1
      have n2 : y.n ≤ 65536 := hok.n2
      have HNL : Hid (y.nm.length ≤ maxLen) := Lib.hid (nameB_max hok.name)
      have hg : getV F.vs y.vol.nm = some y.vol := getV_of HGD.out.1.sorted hmem
      obtain ⟨x0, hx0⟩ : ∃ x0 : Nat, p % y.n = x0 := ⟨(p % y.n).toNat, by have := Int.emod_nonneg p (show y.n ≠ 0 by omega); omega⟩
      have hx1 : (x0 : Int) < y.n := by rw [← hx0]; exact Int.emod_lt_of_pos _ (by omega)
      obtain ⟨n0, hn0⟩ : ∃ n0 : Nat, q % (y.n - x0 + 1) = n0 := ⟨(q % (y.n - x0 + 1)).toNat, by have := Int.emod_nonneg q (show y.n - x0 + 1 ≠ 0 by omega); omega⟩
      have hn1 : (n0 : Int) < y.n - x0 + 1 := by rw [← hn0]; exact Int.emod_lt_of_pos _ (by omega)
      have hrange : ((x0 + n0 : Nat) : Int) ≤ y.vol.n := by show _ ≤ y.n; omega
      have hneed : needF F y.nm x0 n0 = (restN F.C y.l x0 n0, 0) := need_range HGD.out.1 hg x0 n0 hrange
      have hclaim : claimF F y.nm = (claimV F.C y.vol, 0) := claim_mem HGD.out.1 hmem
      have hnc : y.r = y.n → restN F.C y.l x0 n0 ≤ claimV F.C y.vol := fun h => need_claim HGD.out.1 hg x0 n0 hrange h
      have hcan : restN F.C y.l x0 n0 ≤ claimV F.C y.vol → canWriteF F y.nm x0 n0 = 0 := fun h => write_claim (by rw [hneed]) (by rw [hneed, hclaim]; exact h)
      have hclb := claimV_le HGD.out.1 hmem
      generalize restN F.C y.l x0 n0 = rs at *
      generalize claimV F.C y.vol = cl at *
      have HND := Lib.hid hneed
      have HCL := Lib.hid hclaim
      have HCN := Lib.hid hcan
      have HNC := Lib.hid hnc
      have HVX := Lib.hid (VX.new wr _ rfl y 56)
      have hva := (Below.refl wr.heap.size wr).onAlloc (.cells #[nmV y.nm, .int .i64 y.n, .int .i64 y.r, y.sl] 56)
      have HM2 := Lib.hid (HM.out.later hva)
      have HP2 := Lib.hid (HP.out.later hva)
      have HB2 := Lib.hid (HB0.out.on hva)
      clear hat hmem hok hg hrange hneed hclaim hnc hcan hB hva
      obtain ⟨ynm, yn, yr, ya, yc, yl⟩ := y
      simp only at n1 n2 hx0 hx1 hn0 hn1 e0 e1 e2 e3
      go_upto_region 10 with fail
      clear e0 e1 e2 e3 c0 c1 HM HP HB0
      generalize wr.alloc (.cells #[nmV ynm, .int .i64 yn, .int .i64 yr, .slice ya yl.length yc] 56) = W2 at *
      generalize wr.heap.size = X at *
      have b0 := HM2.out.fb.c0
      have b1 := HM2.out.fb.c1
      have c0 := HM2.out.gb.c0
      have c1 := HM2.out.gb.c1
      have y0 := HP2.out.c0
      have y1 := HP2.out.c1
      have z0 := HVX.out.x0
      have z1 := HVX.out.x1
      have z2 := HVX.out.x2
      go_wp2_with fail
      refine (qneed_is F rs 0 _ ynm x0 n0 _ HGD.out.1 HS9.out HM2.out.famr HNL.out HND.out).mono ?_
      rintro e v3 ⟨rfl, hb⟩
      have HM2 := Lib.hid (HM2.out.later hb)
      have HP2 := Lib.hid (HP2.out.later hb)
      have HVX := Lib.hid (HVX.out.later hb)
      have HB2 := Lib.hid (HB2.out.on hb)
      clear hb b0 b1 c0 c1 y0 y1 z0 z1 z2
      have b0 := HM2.out.fb.c0
      have b1 := HM2.out.fb.c1
      have c0 := HM2.out.gb.c0
      have c1 := HM2.out.gb.c1
      have y0 := HP2.out.c0
      have y1 := HP2.out.c1
      have z0 := HVX.out.x0
      have z1 := HVX.out.x1
      have z2 := HVX.out.x2
      go_wp2_with fail
      refine (qclaim_is F cl 0 _ ynm _ HGD.out.1 HM2.out.famr HNL.out HCL.out).mono ?_
      rintro e v4 ⟨rfl, hb⟩
      have HM2 := Lib.hid (HM2.out.later hb)
      have HP2 := Lib.hid (HP2.out.later hb)
      have HVX := Lib.hid (HVX.out.later hb)
      have HB2 := Lib.hid (HB2.out.on hb)
      clear hb b0 b1 c0 c1 y0 y1 z0 z1 z2
      have b0 := HM2.out.fb.c0
      have b1 := HM2.out.fb.c1
      have c0 := HM2.out.gb.c0
      have c1 := HM2.out.gb.c1
      have y0 := HP2.out.c0
      have y1 := HP2.out.c1
      have z0 := HVX.out.x0
      have z1 := HVX.out.x1
      have z2 := HVX.out.x2
      by_cases hle : rs ≤ cl
      · have HCW := Lib.hid (HCN.out hle)
        go_wp2_with fail
        refine (twrite_is F 0 _ ynm x0 n0 _ HGD.out.1 HS9.out HM2.out.fam HNL.out (by omega) (by omega) HCW.out).mono ?_
        rintro e v5 ⟨rfl, hb⟩
        have HM2 := Lib.hid (HM2.out.later hb)
        have HP2 := Lib.hid (HP2.out.later hb)
        have HVX := Lib.hid (HVX.out.later hb)
        have HB2 := Lib.hid (HB2.out.on hb)
        clear hb b0 b1 c0 c1 y0 y1 z0 z1 z2
        go_wp2_with fail
        go_roundw
        case rel => exact ⟨k + 1, by omega, by go_num, HB2.out⟩
        case measure => simp [intOf]; omega
      · have hne : (yr == yn) = false := by
          rw [beq_eq_false_iff_ne]
          exact fun h => hle (HNC.out h)
        go_wp2_with fail
        go_roundw
        case rel => exact ⟨k + 1, by omega, by go_num, HB2.out⟩
        case measure => simp [intOf]; omega
    · obtain rfl : k = ts.length := by omega
      have hB9 := HK0.out.on (HL.out.B.on hB)
      clear hB
      go_wp2_with fail
      go_ret
      exact ⟨rfl, hB9⟩
end Go.Proofs.YtpakjddfnhnndaaGreat

namespace Go.Proofs.YtpakjddfnhnndaaGreat
set_option linter.unusedSimpArgs false
set_option linter.unusedVariables false
set_option maxRecDepth 100000
open Go.RowKit Go.Maps

/-- The families of a law: f in block T, g in block S9. -/
structure LW (w0 W : World) (T S9 : Nat) (u v x y : Value) (F : Fam) : Prop where
  fb : Bx W T 28 u v
  gb : Bx W S9 45 x y
  fam : FamV W (.agg #[u, v]) F
  famr : FamR W (.agg #[x, y]) F
  o : T < S9
  le : w0.heap.size ≤ T
  B : Below w0.heap.size w0 W
section
variable {w0 W W' : World} {T S9 : Nat} {u v x y u' v' x' y' : Value} {F G : Fam}
theorem LW.later (h : LW w0 W T S9 u v x y F) (hb : Below W.heap.size W W') : LW w0 W' T S9 u v x y F :=
  ⟨h.fb.later hb, h.gb.later hb, h.fam.keep hb, h.famr.keep hb, h.o, h.le, h.B.on hb⟩
theorem LW.put (h : LW w0 W T S9 u v x y F) (hf : FamV W (.agg #[u', v']) G) (hg : FamR W (.agg #[x', y']) G) : LW w0 (fam2 (fam2 W T u' v') S9 x' y') T S9 u' v' x' y' G := by
  have q1 := h.o
  have q2 := h.le
  have gb := h.gb.far (R := T) (by omega) u' v'
  exact ⟨(h.fb.put u' v').far (by omega) x' y', gb.put x' y', gb.famV refTy (h.fb.famV famTy hf), gb.famR (h.fb.famR hg), q1, q2, (((h.B.setCell q2 _).setCell q2 _).setCell (by simp only; omega) _).setCell (by simp only; omega) _⟩
end
def SndC (w : World) (T S9 : Nat) (F : Fam) (p : Value) (W : World) : Prop := ∃ G u v x y, p = .bool true ∧ G.sound ∧ Keeps F G ∧ LW w W T S9 u v x y G
set_option maxHeartbeats 16000000 in
theorem law_sound37 (i : Int) (S : List Step36) (a : Option Addr) (c : Nat) (w : World) (hi : 0 ≤ i ∧ i ≤ 255) (hr : RdS36 w a S) :
    Calls Tryz.prog 14 #[.int .u8 i, .slice a S.length c] w fun e w' => e = .returned (.bool true) ∧ Below w.heap.size w w' := by
  obtain ⟨n, rfl⟩ := Int.eq_ofNat_of_zero_le hi.1
  have hn : n ≤ 255 := by omega
  have hlen := hr.1
  have hm0 : n % 50 ≤ 65536 := by omega
  have hmod : ((n : Int) % 50) = ((n % 50 : Nat) : Int) := by omega
  obtain ⟨m, hm⟩ : ∃ m, m = n % 50 := ⟨_, rfl⟩
  have HMD := Lib.hid hmod
  rw [← hm] at hm0 HMD
  have hm50 : m < 50 := by omega
  obtain ⟨F0, hF0⟩ : ∃ F, F = (⟨m, []⟩ : Fam) := ⟨_, rfl⟩
  have HF0 := Lib.hid hF0
  have HS0 : Hid F0.sound := Lib.hid (by rw [hF0]; exact new_sound m hm0)
  have HM0 := Lib.hid hm
  clear hmod hm hF0
  by_cases h25 : 25 < S.length
  · go_enter Tryz.func14, Tryz.ntmps14
    go_wp2_with fail
    refine (awake37_any _).mono ?_
    rintro e w1 ⟨rfl, hb1⟩
    go_wp2_with fail
    go_ret
    exact ⟨rfl, by first | exact hb1 | exact HK0.out.on hb1⟩
  go_enter Tryz.func14, Tryz.ntmps14
  go_wp2_with fail
  refine (awake37_any _).mono ?_
  rintro e w1 ⟨rfl, hb1⟩
  have HRS := Lib.hid hr
  have HB1 := Lib.hid hb1
  clear hb1 hr
  go_wp2_with fail
  rw [HMD.out]
  refine (fnew_yes m _ hm0).mono ?_
  rintro e w2 ⟨fv, rfl, hf, hb⟩
  have hf : FamV w2 fv F0 := by rw [HF0.out]; exact hf
  obtain ⟨fa, fc, fm, rfl⟩ := hf.form
  have hk := (Below.refl w2.heap.size w2).onAlloc (.cells #[.slice fa F0.N fc, .map fm] 28)
  have HX1 := Lib.hid (Bx.new w2 _ rfl (.slice fa F0.N fc) (.map fm) 28)
  have HF1 := Lib.hid (hf.keep hk)
  have HB1 := Lib.hid (HB1.out.on hb)
  have HLE1 := Lib.hid HB1.out.size
  have HB1 := Lib.hid (HB1.out.on hk)
  clear hf hb hk
  go_wp2_with fail
  rw [HMD.out]
  refine (rfnew_is m _ hm0).mono ?_
  rintro e w3 ⟨gv, rfl, hg, hb⟩
  have hg : FamR w3 gv F0 := by rw [HF0.out]; exact hg
  obtain ⟨ra, rn, rc, rfl⟩ := hg.form
  have hk := (Below.refl w3.heap.size w3).onAlloc (.cells #[.int .i64 F0.N, .slice ra rn rc] 45)
  have hT9 : w2.heap.size < w3.heap.size := by have := hb.size; simp only [World.size_alloc] at this; omega
  have HP := Lib.hid (LW.mk ((HX1.out.later hb).later hk) (Bx.new w3 _ rfl (.int .i64 F0.N) (.slice ra rn rc) 45) ((HF1.out.keep hb).keep hk) (hg.keep hk) hT9 HLE1.out ((HB1.out.on hb).on hk))
  clear hk hg hb hT9 HX1 HF1 HB1 HLE1
  go_wp2_with fail
  generalize w3.alloc (.cells #[.int .i64 F0.N, .slice ra rn rc] 45) = W0 at *
  generalize w2.heap.size = T at *
  generalize w3.heap.size = S9 at *
  go_loopw [9] (fun i wr => ∃ (k : Nat) (F : Fam) (u v x y : Value), k ≤ S.length ∧ i = .int .i64 k ∧ F.sound ∧ LW w wr T S9 u v x y F) (fun i _ => S.length - (intOf i).toNat)
  case atStart => exact ⟨0, F0, _, _, _, _, by omega, rfl, HS0.out, HP.out⟩
  case round =>
    clear HP
    obtain ⟨k, F, u, v, x, y, hk, rfl, hsd, hp⟩ := hrel
    obtain ⟨fa, fc, fm, he⟩ := hp.fam.form
    obtain ⟨rfl, rfl⟩ : u = .slice fa F.N fc ∧ v = .map fm := by
      injection he with he
      have h1 := congrArg Array.toList he
      simp at h1
      exact h1
    obtain ⟨ra, rn, rc, he⟩ := hp.famr.form
    obtain ⟨rfl, rfl⟩ : x = .int .i64 F.N ∧ y = .slice ra rn rc := by
      injection he with he
      have h1 := congrArg Array.toList he
      simp at h1
      exact h1
    clear he
    have HP := Lib.hid hp
    have HSD := Lib.hid hsd
    clear hp hsd
    by_cases hlt : k < S.length
    · obtain ⟨sb, so, rfl, hat⟩ := (HRS.out.keep HP.out.B).at (by omega)
      have hst := hat k _ (List.getElem?_eq_getElem hlt)
      generalize S[k] = s at *
      have HST := Lib.hid hst
      have hk0 : (0 : Int) ≤ k := by omega
      have hk1 : (k : Int) < S.length := by omega
      clear hst hat
      go_upto_region 11 with fail
      go_cut [10] from 36 to 46 (fun p wx => SndC w T S9 F p wx)
      case first =>
        have HV := Lib.hid (HP.out.later (Below.refl _ _).drew)
        have p0 := HP.out.fb.c0
        have p1 := HP.out.fb.c1
        have p2 := HP.out.gb.c0
        have p3 := HP.out.gb.c1
        have s0 := HST.out.c0
        have s1 := HST.out.c1
        have s2 := HST.out.c2
        have s3 := HST.out.c3
        have s4 := HST.out.c4
        have s5 := HST.out.c5
        go_region_law ((go_simp; go_at_call 56; refine (perm37_is F _ _ s _ HSD.out HV.out.fam HV.out.famr HST.out.ok).mono ?_; rintro e w5 ⟨G, fv, gv, rfl, hsg, hkp, hf, hg, hb5⟩; obtain ⟨ga, gc, gm, rfl⟩ := hf.form; obtain ⟨ya, yn, yc, rfl⟩ := hg.form; have HP5 := Lib.hid (HV.out.later hb5); have hoo := HP5.out.o; have q0 := HP5.out.fb.c0; have q1 := HP5.out.fb.c1; have q2 := HP5.out.fb.f0; have q3 := HP5.out.fb.f1; have r0 := (HP5.out.gb.far (R := T) (by omega) (.slice ga G.N gc) (.map gm)).c0; have r1 := (HP5.out.gb.far (R := T) (by omega) (.slice ga G.N gc) (.map gm)).c1; have r2 := HP5.out.gb.f0; have r3 := HP5.out.gb.f1; clear hoo))
        all_goals
          have HQ : Hid (SndC w T S9 F (.bool true) (fam2 (fam2 w5 T (.slice ga G.N gc) (.map gm)) S9 (.int .i64 G.N) (.slice ya yn yc))) := Lib.hid ⟨G, _, _, _, _, rfl, hsg, hkp, HP5.out.put hf hg⟩
          clear hf hg hb5 hsg HP5 HV hkp
          clear p0 p1 p2 p3 s0 s1 s2 s3 s4 s5 q0 q1 q2 q3 r0 r1 r2 r3
          go_wp2_with fail
          go_meet
          exact HQ.out
      case rest =>
        obtain ⟨G, u, v, x, y, rfl, hsg, _, hp⟩ := hcut
        obtain ⟨W2, rfl⟩ : ∃ W2 : World, W2 = wc := ⟨_, rfl⟩
        obtain ⟨ga, gc, gm, he⟩ := hp.fam.form
        obtain ⟨rfl, rfl⟩ : u = .slice ga G.N gc ∧ v = .map gm := by
          injection he with he
          have h1 := congrArg Array.toList he
          simp at h1
          exact h1
        obtain ⟨ya, yn, yc, he⟩ := hp.famr.form
        obtain ⟨rfl, rfl⟩ : x = .int .i64 G.N ∧ y = .slice ya yn yc := by
          injection he with he
          have h1 := congrArg Array.toList he
          simp at h1
          exact h1
        clear he
        have HQ := Lib.hid hp
        have HSG := Lib.hid hsg
        have hr0 : 0 ≤ roomF G := hsg.room
        obtain ⟨rm, hrm⟩ : ∃ x, roomF G = x := ⟨_, rfl⟩
        have HRM := Lib.hid hrm
        rw [hrm] at hr0
        clear hrm hsg hp HST
        have b0 := HQ.out.fb.c0
        have b1 := HQ.out.fb.c1
        have c0 := HQ.out.gb.c0
        have c1 := HQ.out.gb.c1
        have hd : decide (rm < 0) = false := decide_eq_false (by omega)
        go_upto_region 12 with fail
        refine wp_region_next (by kernel_rfl) (by kernel_rfl) ?_
        repeat (go_big_quiet_step ((first | (go_at_call 45; exact Calls.next_of (troom_is G rm _ _ HSG.out.ok HSG.out.short (HQ.out.fam.keep (World.below_next _ _)) HRM.out)) | (go_at_call 46; exact Calls.next_of (qroom_is G rm _ _ HSG.out.ok (HQ.out.famr.keep (World.below_next _ _)) HRM.out)))))
        refine wpQuiet_nil ?_
        intro _ hw'
        obtain ⟨nq, hw''⟩ := hw'
        subst hw''
        have HQ2 := Lib.hid (HQ.out.later (World.below_next _ nq))
        clear b0 b1 c0 c1 hd
        go_wp2_with fail
        go_roundw
        case rel => exact ⟨k + 1, G, _, _, _, _, by omega, by go_num, HSG.out, HQ2.out⟩
        case measure => simp [intOf]; omega
    · obtain rfl : k = S.length := by omega
      have hB9 := HP.out.B
      go_wp2_with fail
      go_ret
      exact ⟨rfl, hB9⟩
end Go.Proofs.YtpakjddfnhnndaaGreat

namespace Go.Proofs.YtpakjddfnhnndaaGreat
set_option linter.unusedSimpArgs false
set_option linter.unusedVariables false
set_option maxRecDepth 100000
open Go.RowKit Go.Maps

def fullN : List UInt8 := [102, 117, 108, 108]
theorem full_max : fullN.length ≤ maxLen := by decide
theorem full_no : ¬ letter5 fullN := fun ⟨j, _, h⟩ => by
  have := congrArg List.length h
  simp [fullN] at this
theorem rcreate_r (F G : Fam) (e0 : Int) (gv : Value) (nm : List UInt8) (n r : Int) (w : World) (hF : F.ok) (h : FamR w gv F) (hnm : nm.length ≤ maxLen) (he : createF F nm n r = (G, e0)) :
    Calls Tryz.prog 57 #[gv, nmV nm, .int .i64 n, .int .i64 r] w fun e w' => ∃ gv, e = .returned (.tuple #[gv, .int .i64 e0]) ∧ FamR w' gv G ∧ Below w.heap.size w w' := by
  have := rcreate_is F gv nm n r w hF h hnm
  rwa [he] at this
def fullF (m k : Nat) : Fam := ⟨m, [⟨fullN, k, k, []⟩]⟩
theorem full_create (m k : Nat) (h1 : 1 ≤ k) (h2 : k ≤ 65536) : createF ⟨m, []⟩ fullN k k = (fullF m k, 0) := by
  unfold createF
  have hn : numB k k = true := decide_eq_true (by omega)
  rw [hn]
  rfl
theorem full_room (m k : Nat) (hm : m ≤ 65536) (h1 : 1 ≤ k) : roomF (fullF m k) = m - k := by
  have := room_create (good_new m hm).1 (u := ⟨fullN, k, k, []⟩) rfl rfl (by simp)
  rw [new_room] at this
  exact this
theorem full_sound (m k : Nat) (hm : m ≤ 65536) (h1 : 1 ≤ k) (h2 : k ≤ 255) (h3 : k ≤ m) : (fullF m k).sound := by
  refine ⟨?_, fun v hv => ?_, ?_⟩
  · have := ok_create (good_new m hm).1 fullN k k
    rw [full_create m k h1 (by omega)] at this
    exact this
  · simp [fullF] at hv
    subst hv
    show (k : Int) ≤ 255
    omega
  · rw [full_room m k hm h1]
    omega
theorem full_can (m k : Nat) (h1 : 1 ≤ k) (h2 : k ≤ 65536) : canCreateF ⟨m, []⟩ k k = if m < k then 11 else 0 := by
  unfold canCreateF enoughN
  have hn : numB k k = true := decide_eq_true (by omega)
  rw [hn, if_neg (by decide), new_room]
  by_cases h : m < k
  · rw [if_pos h, if_pos (by omega)]
  · rw [if_neg h, if_neg (by omega)]
/-- Behind the write of the whole volume. -/
theorem full_end {F G : Fam} {k : Nat} (hF : F.ok) (hv : getV F.vs fullN = some ⟨fullN, k, k, []⟩) (h : WrI F ⟨fullN, k, k, []⟩ 0 k k G) : ∃ ln, infoF G fullN = (⟨fullN, k, k, ln, k⟩, 0) ∧ claimF G fullN = (0, 0) := by
  obtain ⟨l, h1, h2, _⟩ := h.get
  have h1 : getV G.vs fullN = some ⟨fullN, k, k, l⟩ := h1
  have hm := (getV_mem h1).1
  have hs := single_blocks h.ok hm
  have ha : area (fun j : Nat => exB G.C l j) k = k := by
    have h3 := area_not (fun j : Nat => exB G.C l j) k
    have h4 : area (fun j : Nat => !exB G.C l j) k = 0 := area_false _ _ fun j hj => by rw [h2 j (by omega) (by omega)]; rfl
    omega
  have hs2 : singleC G.C l = k := by
    have e : (((k : Nat) : Int)).toNat = k := by omega
    have hs : singleC G.C l = area (fun j : Nat => exB G.C l j) ((k : Int)).toNat := hs
    rw [e, ha] at hs
    exact hs
  refine ⟨lenL l, ?_, ?_⟩
  · unfold infoF
    rw [h1]
    show ((⟨fullN, k, k, lenL l, singleC G.C l⟩ : Info), (0 : Int)) = _
    rw [hs2]
  · unfold claimF claimV
    rw [h1]
    show (max 0 ((k : Int) - singleC G.C l), (0 : Int)) = _
    rw [hs2]
    congr 1
    omega
/-- The families of a law, while they differ. -/
structure LX (w0 W : World) (T S9 : Nat) (u v x y : Value) (F H : Fam) : Prop where
  fb : Bx W T 28 u v
  gb : Bx W S9 45 x y
  fam : FamV W (.agg #[u, v]) F
  famr : FamR W (.agg #[x, y]) H
  o : T < S9
  le : w0.heap.size ≤ T
  B : Below w0.heap.size w0 W
section
variable {w0 W W' : World} {T S9 : Nat} {u v x y u' v' x' y' : Value} {F H G : Fam}
theorem LX.later (h : LX w0 W T S9 u v x y F H) (hb : Below W.heap.size W W') : LX w0 W' T S9 u v x y F H :=
  ⟨h.fb.later hb, h.gb.later hb, h.fam.keep hb, h.famr.keep hb, h.o, h.le, h.B.on hb⟩
theorem LX.putF (h : LX w0 W T S9 u v x y F H) (hf : FamV W (.agg #[u', v']) G) : LX w0 (fam2 W T u' v') T S9 u' v' x y G H := by
  have q1 := h.o
  have q2 := h.le
  exact ⟨h.fb.put u' v', h.gb.far (by omega) u' v', h.fb.famV famTy hf, h.fb.famR h.famr, q1, q2, (h.B.setCell q2 _).setCell q2 _⟩
theorem LX.putG (h : LX w0 W T S9 u v x y F H) (hg : FamR W (.agg #[x', y']) G) : LX w0 (fam2 W S9 x' y') T S9 u v x' y' F G := by
  have q1 := h.o
  have q2 := h.le
  exact ⟨h.fb.far (by omega) x' y', h.gb.put x' y', h.gb.famV refTy h.fam, h.gb.famR hg, q1, q2, (h.B.setCell (by simp only; omega) _).setCell (by simp only; omega) _⟩
theorem LW.lx (h : LW w0 W T S9 u v x y F) : LX w0 W T S9 u v x y F F := ⟨h.fb, h.gb, h.fam, h.famr, h.o, h.le, h.B⟩
theorem LX.lw (h : LX w0 W T S9 u v x y F F) : LW w0 W T S9 u v x y F := ⟨h.fb, h.gb, h.fam, h.famr, h.o, h.le, h.B⟩
end
set_option maxHeartbeats 16000000 in
theorem law_full37 (i : Int) (S : List Step36) (z : Int) (a : Option Addr) (c : Nat) (w : World) (hi : 0 ≤ i ∧ i ≤ 255) (hr : RdS36 w a S) (hz : 0 ≤ z ∧ z ≤ 255) :
    Calls Tryz.prog 16 #[.int .u8 i, .slice a S.length c, .int .u8 z] w fun e w' => e = .returned (.bool true) ∧ Below w.heap.size w w' := by
  obtain ⟨z1, z2⟩ := hz
  obtain ⟨n, rfl⟩ := Int.eq_ofNat_of_zero_le hi.1
  have hn : n ≤ 255 := by omega
  have hlen := hr.1
  have hm0 : n % 50 ≤ 65536 := by omega
  have hmod : ((n : Int) % 50) = ((n % 50 : Nat) : Int) := by omega
  obtain ⟨m, hm⟩ : ∃ m, m = n % 50 := ⟨_, rfl⟩
  have HMD := Lib.hid hmod
  rw [← hm] at hm0 HMD
  have hm50 : m < 50 := by omega
  obtain ⟨F0, hF0⟩ : ∃ F, F = (⟨m, []⟩ : Fam) := ⟨_, rfl⟩
  have HF0 := Lib.hid hF0
  have HS0 : Hid F0.sound := Lib.hid (by rw [hF0]; exact new_sound m hm0)
  have HM0 := Lib.hid hm
  clear hmod hm hF0
  by_cases h25 : 20 < S.length
  · go_enter Tryz.func16, Tryz.ntmps16
    go_wp2_with fail
    refine (awake37_any _).mono ?_
    rintro e w1 ⟨rfl, hb1⟩
    go_wp2_with fail
    go_ret
    exact ⟨rfl, by first | exact hb1 | exact HK0.out.on hb1⟩
  go_enter Tryz.func16, Tryz.ntmps16
  go_wp2_with fail
  refine (awake37_any _).mono ?_
  rintro e w1 ⟨rfl, hb1⟩
  have HRS := Lib.hid hr
  have HB1 := Lib.hid hb1
  clear hb1 hr
  go_wp2_with fail
  rw [HMD.out]
  refine (fnew_yes m _ hm0).mono ?_
  rintro e w2 ⟨fv, rfl, hf, hb⟩
  have hf : FamV w2 fv F0 := by rw [HF0.out]; exact hf
  obtain ⟨fa, fc, fm, rfl⟩ := hf.form
  have hk := (Below.refl w2.heap.size w2).onAlloc (.cells #[.slice fa F0.N fc, .map fm] 28)
  have HX1 := Lib.hid (Bx.new w2 _ rfl (.slice fa F0.N fc) (.map fm) 28)
  have HF1 := Lib.hid (hf.keep hk)
  have HB1 := Lib.hid (HB1.out.on hb)
  have HLE1 := Lib.hid HB1.out.size
  have HB1 := Lib.hid (HB1.out.on hk)
  clear hf hb hk
  go_wp2_with fail
  rw [HMD.out]
  refine (rfnew_is m _ hm0).mono ?_
  rintro e w3 ⟨gv, rfl, hg, hb⟩
  have hg : FamR w3 gv F0 := by rw [HF0.out]; exact hg
  obtain ⟨ra, rn, rc, rfl⟩ := hg.form
  have hk := (Below.refl w3.heap.size w3).onAlloc (.cells #[.int .i64 F0.N, .slice ra rn rc] 45)
  have hT9 : w2.heap.size < w3.heap.size := by have := hb.size; simp only [World.size_alloc] at this; omega
  have HP := Lib.hid (LW.mk ((HX1.out.later hb).later hk) (Bx.new w3 _ rfl (.int .i64 F0.N) (.slice ra rn rc) 45) ((HF1.out.keep hb).keep hk) (hg.keep hk) hT9 HLE1.out ((HB1.out.on hb).on hk))
  clear hk hg hb hT9 HX1 HF1 HB1 HLE1
  obtain ⟨k, hkz⟩ : ∃ k : Nat, 1 + z % 30 = k := ⟨(1 + z % 30).toNat, by omega⟩
  have hk1 : 1 ≤ k := by omega
  have hk30 : k ≤ 30 := by omega
  have hcan := full_can m k hk1 (by omega)
  rw [← HF0.out] at hcan
  have HP := Lib.hid HP.out.lx
  go_upto_region 8 with fail
  generalize w3.alloc (.cells #[.int .i64 F0.N, .slice ra rn rc] 45) = W0 at *
  generalize w2.heap.size = T at *
  generalize w3.heap.size = S9 at *
  clear hkz z1 z2
  have b0 := HP.out.fb.c0
  have b1 := HP.out.fb.c1
  by_cases hmk : m < k
  · rw [if_pos hmk] at hcan
    have HCN := Lib.hid hcan
    have hmd := HMD.out
    clear hcan
    go_wp2_with fail
    refine (tcreate_is F0 11 _ k k _ HS0.out.ok HS0.out.short HP.out.fam HCN.out).mono ?_
    rintro e w4 ⟨rfl, hb⟩
    have hB := (HP.out.later hb).B
    have hd : decide ((m : Int) < k) = true := decide_eq_true (by omega)
    clear hb b0 b1
    go_wp2_with fail
    go_ret
    exact ⟨rfl, hB⟩
  rw [if_neg hmk] at hcan
  have HCN := Lib.hid hcan
  obtain ⟨F1, hF1⟩ : ∃ F, F = fullF m k := ⟨_, rfl⟩
  have HCR : Hid (createF F0 fullN k k = (F1, 0)) := Lib.hid (by rw [HF0.out, hF1]; exact full_create m k hk1 (by omega))
  have HS1 : Hid F1.sound := Lib.hid (by rw [hF1]; exact full_sound m k hm0 hk1 (by omega) (by omega))
  have HG1 : Hid (getV F1.vs fullN = some ⟨fullN, k, k, []⟩) := Lib.hid (by rw [hF1]; rfl)
  clear hcan hF1
  go_wp2_with fail
  refine (tcreate_is F0 0 _ k k _ HS0.out.ok HS0.out.short HP.out.fam HCN.out).mono ?_
  rintro e w4 ⟨rfl, hb⟩
  have HP := Lib.hid (HP.out.later hb)
  clear hb b0 b1
  have b0 := HP.out.fb.c0
  have b1 := HP.out.fb.c1
  go_wp2_with fail
  refine (create_r F0 F1 0 _ fullN k k _ HS0.out.ok HP.out.fam full_max HCR.out).mono ?_
  rintro e w5 ⟨fv, rfl, hf, hb⟩
  obtain ⟨ga, gc, gm, rfl⟩ := hf.form
  have HP := Lib.hid (HP.out.later hb)
  have HPF := Lib.hid (HP.out.putF hf)
  clear hb hf b0 b1
  have b0 := HP.out.fb.c0
  have b1 := HP.out.fb.c1
  have b2 := HP.out.fb.f0
  have b3 := HP.out.fb.f1
  have c0 := HPF.out.gb.c0
  have c1 := HPF.out.gb.c1
  go_wp2_with fail
  refine (rcreate_r F0 F1 0 _ fullN k k _ HS0.out.ok HPF.out.famr full_max HCR.out).mono ?_
  rintro e w6 ⟨gv, rfl, hg, hb⟩
  obtain ⟨ya, yn, yc, rfl⟩ := hg.form
  have HP := Lib.hid (HPF.out.later hb)
  have HPG := Lib.hid (HP.out.putG hg).lw
  clear hb hg b0 b1 b2 b3 c0 c1 HPF
  have b0 := HP.out.gb.c0
  have b1 := HP.out.gb.c1
  have b2 := HP.out.gb.f0
  have b3 := HP.out.gb.f1
  go_wp2_with fail
  clear b0 b1 b2 b3 HP
  go_loopw [12] (fun i wr => ∃ (j : Nat) (F : Fam) (u v x y : Value), j ≤ S.length ∧ i = .int .i64 j ∧ F.sound ∧ getV F.vs fullN = some ⟨fullN, k, k, []⟩ ∧ LW w wr T S9 u v x y F) (fun i _ => S.length - (intOf i).toNat)
  case atStart => exact ⟨0, F1, _, _, _, _, by omega, rfl, HS1.out, HG1.out, HPG.out⟩
  case round =>
    clear HPG
    obtain ⟨j, F, u, v, x, y, hj, rfl, hsd, hgv, hp⟩ := hrel
    obtain ⟨fa, fc, fm, he⟩ := hp.fam.form
    obtain ⟨rfl, rfl⟩ : u = .slice fa F.N fc ∧ v = .map fm := by
      injection he with he
      have h1 := congrArg Array.toList he
      simp at h1
      exact h1
    obtain ⟨ra, rn, rc, he⟩ := hp.famr.form
    obtain ⟨rfl, rfl⟩ : x = .int .i64 F.N ∧ y = .slice ra rn rc := by
      injection he with he
      have h1 := congrArg Array.toList he
      simp at h1
      exact h1
    clear he
    have HP := Lib.hid hp
    have HSD := Lib.hid hsd
    have HGV := Lib.hid hgv
    clear hp hsd hgv
    by_cases hlt : j < S.length
    · obtain ⟨sb, so, rfl, hat⟩ := (HRS.out.keep HP.out.B).at (by omega)
      have hst := hat j _ (List.getElem?_eq_getElem hlt)
      generalize S[j] = s at *
      have HST := Lib.hid hst
      have hk0 : (0 : Int) ≤ j := by omega
      have hk9 : (j : Int) < S.length := by omega
      clear hst hat
      go_upto_region 15 with fail
      have HV := Lib.hid (HP.out.later (Below.refl _ _).drew)
      have p0 := HP.out.fb.c0
      have p1 := HP.out.fb.c1
      have p2 := HP.out.gb.c0
      have p3 := HP.out.gb.c1
      have s0 := HST.out.c0
      have s1 := HST.out.c1
      have s2 := HST.out.c2
      have s3 := HST.out.c3
      have s4 := HST.out.c4
      have s5 := HST.out.c5
      go_region_law ((go_simp; go_at_call 56; refine (perm37_is F _ _ s _ HSD.out HV.out.fam HV.out.famr HST.out.ok).mono ?_; rintro e w5 ⟨G, fv, gv, rfl, hsg, hkp, hf, hg, hb5⟩; obtain ⟨ga, gc, gm, rfl⟩ := hf.form; obtain ⟨ya, yn, yc, rfl⟩ := hg.form; have HP5 := Lib.hid (HV.out.later hb5); have hoo := HP5.out.o; have q0 := HP5.out.fb.c0; have q1 := HP5.out.fb.c1; have q2 := HP5.out.fb.f0; have q3 := HP5.out.fb.f1; have r0 := (HP5.out.gb.far (R := T) (by omega) (.slice ga G.N gc) (.map gm)).c0; have r1 := (HP5.out.gb.far (R := T) (by omega) (.slice ga G.N gc) (.map gm)).c1; have r2 := HP5.out.gb.f0; have r3 := HP5.out.gb.f1; clear hoo))
      all_goals
        have HQ := Lib.hid (HP5.out.put hf hg)
        have HSG := Lib.hid hsg
        have HGG : Hid (getV G.vs fullN = some ⟨fullN, k, k, []⟩) := Lib.hid (hkp.vol _ (getV_mem HGV.out).1 full_no)
        clear hf hg hb5 hsg HP5 HV hkp
        clear p0 p1 p2 p3 s0 s1 s2 s3 s4 s5 q0 q1 q2 q3 r0 r1 r2 r3
        go_wp2_with fail
        go_roundw
        case rel => exact ⟨j + 1, G, _, _, _, _, by omega, by go_num, HSG.out, HGG.out, HQ.out⟩
        case measure => simp [intOf]; omega
    · obtain rfl : j = S.length := by omega
      have hrs : restN F.C [] 0 k ≤ claimV F.C ⟨fullN, k, k, []⟩ := need_claim HSD.out.ok (v := ⟨fullN, k, k, []⟩) HGV.out 0 k (by show ((0 + k : Nat) : Int) ≤ k; omega) rfl
      have hnr : needF F fullN 0 k = (restN F.C [] 0 k, 0) := need_range HSD.out.ok (v := ⟨fullN, k, k, []⟩) HGV.out 0 k (by show ((0 + k : Nat) : Int) ≤ k; omega)
      have HCW : Hid (canWriteF F fullN 0 k = 0) := Lib.hid (write_claim (by rw [hnr]) (by
        rw [hnr]
        have : claimF F fullN = (claimV F.C ⟨fullN, k, k, []⟩, 0) := by unfold claimF; rw [HGV.out]
        rw [this]
        exact hrs))
      have HRS2 : Hid (restN F.C [] 0 k ≤ claimV F.C ⟨fullN, k, k, []⟩ + roomF F) := Lib.hid (by have := HSD.out.room; omega)
      clear hrs hnr
      have b0 := HP.out.fb.c0
      have b1 := HP.out.fb.c1
      go_wp2_with fail
      refine (twrite_is F 0 _ fullN 0 k _ HSD.out.ok HSD.out.short HP.out.fam full_max (by omega) (by omega) HCW.out).mono ?_
      rintro e v1 ⟨rfl, hb⟩
      have HP := Lib.hid (HP.out.later hb)
      clear hb b0 b1
      have b0 := HP.out.fb.c0
      have b1 := HP.out.fb.c1
      have c0 := HP.out.gb.c0
      have c1 := HP.out.gb.c1
      go_wp2_with fail
      have hwc := write_is F ⟨fullN, k, k, []⟩ (.agg #[.slice fa F.N fc, .map fm]) (.agg #[.int .i64 F.N, .slice ra rn rc]) fullN 0 k v1 HSD.out HGV.out HP.out.fam HP.out.famr full_max (by show ((0 + k : Nat) : Int) ≤ k; omega) HRS2.out
      rw [show ((0 : Nat) : Int) = 0 from rfl] at hwc
      refine hwc.mono ?_
      clear hwc
      rintro e v2 ⟨G, fv, gv, rfl, hwi, hf, hg, hb⟩
      obtain ⟨ga, gc, gm, rfl⟩ := hf.form
      obtain ⟨ya, yn, yc, rfl⟩ := hg.form
      have HP := Lib.hid (HP.out.later hb)
      have HQ := Lib.hid (HP.out.put hf hg)
      have HSG := Lib.hid (hwi.sound HSD.out HGV.out)
      obtain ⟨ln, hinf, hclm⟩ := full_end HSD.out.ok HGV.out hwi
      have HIN := Lib.hid hinf
      have HCM := Lib.hid hclm
      have hoo := HP.out.o
      clear hb hf hg hwi hinf hclm b0 b1 c0 c1
      have q0 := HP.out.fb.c0
      have q1 := HP.out.fb.c1
      have q2 := HP.out.fb.f0
      have q3 := HP.out.fb.f1
      have r0 := (HP.out.gb.far (R := T) (by omega) (.slice ga G.N gc) (.map gm)).c0
      have r1 := (HP.out.gb.far (R := T) (by omega) (.slice ga G.N gc) (.map gm)).c1
      have r2 := HP.out.gb.f0
      have r3 := HP.out.gb.f1
      clear hoo
      go_upto_region 19 with fail
      clear q0 q1 q2 q3 r0 r1 r2 r3 HP
      have b0 := HQ.out.fb.c0
      have b1 := HQ.out.fb.c1
      go_wp2_with fail
      refine (info_r G fullN k k ln k 0 _ fullN _ HSG.out.ok HSG.out.short HQ.out.fam full_max HIN.out).mono ?_
      rintro e v3 ⟨rfl, hb⟩
      have hk3 := hb.onAlloc (.cells #[nmV fullN, .int .i64 k, .int .i64 k, .int .i64 ln, .int .i64 k] 34)
      have HQ := Lib.hid (HQ.out.later hk3)
      have HI := Lib.hid (IT.new v3 _ rfl ⟨fullN, k, k, ln, k⟩ 34)
      clear hb hk3 b0 b1
      go_upto_region 20 with fail
      generalize v3.heap.size = X at *
      have b0 := HQ.out.fb.c0
      have b1 := HQ.out.fb.c1
      go_wp2_with fail
      refine (tclaim_is G 0 0 _ fullN _ HSG.out.ok HSG.out.short HQ.out.fam full_max HCM.out).mono ?_
      rintro e v4 ⟨rfl, hb⟩
      have HQ := Lib.hid (HQ.out.later hb)
      have HI := Lib.hid (HI.out.later hb)
      obtain ⟨rm, hrm⟩ : ∃ x, roomF G = x := ⟨_, rfl⟩
      have hr0 : 0 ≤ rm := by rw [← hrm]; exact HSG.out.room
      have HRM := Lib.hid hrm
      clear hb b0 b1 hrm
      have b0 := HQ.out.fb.c0
      have b1 := HQ.out.fb.c1
      have i4 : v4.cell? ⟨X, 4, none⟩ = some (.int .i64 k) := HI.out.t4
      go_wp2_with fail
      refine (troom_is G rm _ _ HSG.out.ok HSG.out.short HQ.out.fam HRM.out).mono ?_
      rintro e v5 ⟨rfl, hb⟩
      have HQ := Lib.hid (HQ.out.later hb)
      clear hb b0 b1 i4
      have c0 := HQ.out.gb.c0
      have c1 := HQ.out.gb.c1
      go_wp2_with fail
      refine (qroom_is G rm _ _ HSG.out.ok HQ.out.famr HRM.out).mono ?_
      rintro e v6 ⟨rfl, hb⟩
      have hB := (HQ.out.later hb).B
      clear hb c0 c1
      go_wp2_with fail
      go_ret
      exact ⟨rfl, hB⟩
end Go.Proofs.YtpakjddfnhnndaaGreat
