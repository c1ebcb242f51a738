/-
  tegularef36: freed, inside, Free.
  Conditions: as each theorem says.
-/
import Derived.Test.YtpakjddfnhnndaaGreatFcD
namespace Go.Proofs.YtpakjddfnhnndaaGreat
set_option linter.unusedSimpArgs false
set_option linter.unusedVariables false
set_option maxRecDepth 100000
open Go.RowKit Go.Maps

theorem rcounts_of (F : Fam) (C : List Int) (hC : F.C = C) (ts : List RT) (a : Option Addr) (c : Nat) (w : World) (hF : F.ok) (h : ts.map RT.vol = F.vs) (hr : RdR w a ts) (hl : ListsR w ts) :
    Calls Tryz.prog 80 #[.agg #[.int .i64 F.N, .slice a ts.length c]] w fun e w' => ∃ v, e = .returned v ∧ OwnI w' w.heap.size v C ∧ Below w.heap.size w w' := by
  rw [← hC, ← counts_of h]
  exact rcounts_is F.N ts a c w hr hl (fit_of hF h)
/-- Two boxes. -/
structure B22 (w W : World) (a ag : Option Addr) (n ng : Int) (m mg c cg : Nat) : Prop where
  a0 : W.cell? ⟨w.heap.size, 0, none⟩ = some (.int .i64 n)
  a1 : W.cell? ⟨w.heap.size, 1, none⟩ = some (.slice a m c)
  b0 : W.cell? ⟨w.heap.size + 1, 0, none⟩ = some (.int .i64 ng)
  b1 : W.cell? ⟨w.heap.size + 1, 1, none⟩ = some (.slice ag mg cg)
  B : Below w.heap.size w W
theorem B22.later {w W W' : World} {a ag : Option Addr} {n ng : Int} {m mg c cg : Nat} (h : B22 w W a ag n ng m mg c cg) (hb : Below W.heap.size W W') : B22 w W' a ag n ng m mg c cg :=
  ⟨hb.keep h.a0, hb.keep h.a1, hb.keep h.b0, hb.keep h.b1, h.B.on hb⟩
theorem B22.new (w : World) (a ag : Option Addr) (n ng : Int) (m mg c cg : Nat) (t : TypeId) : B22 w ((w.alloc (.cells #[.int .i64 n, .slice a m c] t)).alloc (.cells #[.int .i64 ng, .slice ag mg cg] t)) a ag n ng m mg c cg := by
  have k : ∀ i, ((w.alloc (.cells #[.int .i64 n, .slice a m c] t)).alloc (.cells #[.int .i64 ng, .slice ag mg cg] t)).cell? ⟨w.heap.size, i, none⟩ = (w.alloc (.cells #[.int .i64 n, .slice a m c] t)).cell? ⟨w.heap.size, i, none⟩ := fun i => World.cell?_alloc_lt _ _ _ (by simp)
  obtain ⟨h1, h2, _⟩ := new2 (w.alloc (.cells #[.int .i64 n, .slice a m c] t)) (w.heap.size + 1) (by simp) (.int .i64 ng) (.slice ag mg cg) t
  exact ⟨(k 0).trans (by simp), (k 1).trans (by simp), h1, h2, ((Below.refl _ _).onAlloc _).onAlloc _⟩
set_option maxHeartbeats 4000000 in
theorem rfreed_is (F G : Fam) (tf tg : List RT) (a ag : Option Addr) (c cg : Nat) (w : World) (hF : F.ok) (hG : G.ok) (hN : G.N = F.N) (hf : tf.map RT.vol = F.vs) (hg : tg.map RT.vol = G.vs)
    (hr : RdR w a tf) (hl : ListsR w tf) (hrg : RdR w ag tg) (hlg : ListsR w tg) :
    Calls Tryz.prog 119 #[.agg #[.int .i64 F.N, .slice a tf.length c], .agg #[.int .i64 G.N, .slice ag tg.length cg]] w fun e w' => ∃ v, e = .returned v ∧ OwnE w' w.heap.size v (freedF F G) ∧ Below w.heap.size w w' := by
  obtain ⟨i0, hi, hz0, hz1, hz2⟩ := info_parts infoE
  have H0 := Lib.hid (B22.new w a ag F.N G.N tf.length tg.length c cg 45)
  have hk := ((Below.refl w.heap.size w).onAlloc (.cells #[.int .i64 F.N, .slice a tf.length c] 45)).onAlloc (.cells #[.int .i64 G.N, .slice ag tg.length cg] 45)
  have HR := Lib.hid (hr.keep hk)
  have HL := Lib.hid (hl.keep hk)
  have HRG := Lib.hid (hrg.keep hk)
  have HLG := Lib.hid (hlg.keep hk)
  have HF := Lib.hid hF
  have HG := Lib.hid hG
  have HNN := Lib.hid hN
  have HVF := Lib.hid hf
  have HVG := Lib.hid hg
  have hlf := hr.1
  have hlg2 := hrg.1
  have hNN := hF.hN
  obtain ⟨CF, hCF⟩ : ∃ C, F.C = C := ⟨_, rfl⟩
  obtain ⟨CG, hCG⟩ : ∃ C, G.C = C := ⟨_, rfl⟩
  have hl1 : CF.length = F.N := by rw [← hCF, F.C_length]
  have hl2 : CG.length = CF.length := by rw [hl1, ← hN, ← hCG, G.C_length]
  have HFR : Hid (freedF F G = runsL (picks (freeB CF CG) CF.length)) := Lib.hid (by unfold freedF; rw [hCF, hCG, hl1])
  have HCF := Lib.hid hCF
  have HCG := Lib.hid hCG
  clear hCF hCG
  clear hk hr hl hrg hlg hF hG hN hf hg
  go_enter Tryz.func119, Tryz.ntmps119
  go_wp2_with fail
  generalize (w.alloc (.cells #[.int .i64 F.N, .slice a tf.length c] 45)).alloc (.cells #[.int .i64 G.N, .slice ag tg.length cg] 45) = w0 at *
  have HH := Lib.hid (H0.out.later (Below.refl _ _).drew)
  have HBB := Lib.hid (Below.refl w0.heap.size w0).drew
  have a0 := HH.out.a0
  have a1 := HH.out.a1
  have b0 := HH.out.b0
  have b1 := HH.out.b1
  go_region_law (first
    | (go_simp; go_at_call_of 80 (Value.agg #[.int .i64 F.N, .slice a tf.length c]); refine (rcounts_of F CF HCF.out tf a c _ HF.out HVF.out (HR.out.keep HBB.out) (HL.out.keep HBB.out)).mono ?_; rintro e wz ⟨va, rfl, hoa, hba⟩; have HOA := Lib.hid (hoa.mono (Nat.zero_le _)); (try (have HOB := Lib.hid (HOB.out.keep hba))); have HBB := Lib.hid (HBB.out.on hba); have HH := Lib.hid (HH.out.later hba); clear a0 a1 b0 b1; have a0 := HH.out.a0; have a1 := HH.out.a1; have b0 := HH.out.b0; have b1 := HH.out.b1)
    | (go_simp; go_at_call_of 80 (Value.agg #[.int .i64 G.N, .slice ag tg.length cg]); refine (rcounts_of G CG HCG.out tg ag cg _ HG.out HVG.out (HRG.out.keep HBB.out) (HLG.out.keep HBB.out)).mono ?_; rintro e wz ⟨vb, rfl, hob, hbb⟩; have HOB := Lib.hid (hob.mono (Nat.zero_le _)); (try (have HOA := Lib.hid (HOA.out.keep hbb))); have HBB := Lib.hid (HBB.out.on hbb); have HH := Lib.hid (HH.out.later hbb); clear a0 a1 b0 b1; have a0 := HH.out.a0; have a1 := HH.out.a1; have b0 := HH.out.b0; have b1 := HH.out.b1))
  all_goals
    obtain ⟨pa, ca, rfl, hra⟩ := HOA.out.rd (by omega)
    obtain ⟨pb, cb, rfl, hrb⟩ := HOB.out.rd (by omega)
    have HRA := Lib.hid hra
    have HRB := Lib.hid hrb
    have HWB := Lib.hid (H0.out.B.on ((Below.refl w0.heap.size w0).on HBB.out))
    clear hra hrb HOA HOB a0 a1 b0 b1 hoa hob hba hbb HH H0 HR HL HRG HLG HVF HVG HF HG
    generalize hww : wz = w5 at *
    clear hww
    go_wp2_with fail
    go_loopw [7, 8] (fun v i wr => ∃ k : Nat, k ≤ CF.length ∧ i = .int .i64 k ∧ OwnE wr w5.heap.size v (picks (freeB CF CG) k) ∧ Below w5.heap.size w5 wr) (fun _ i _ => CF.length - (intOf i).toNat)
    case atStart => exact ⟨0, Nat.zero_le _, rfl, OwnE.nil _ _, Below.refl _ _⟩
    case round =>
      obtain ⟨k, hk, rfl, ho, hB⟩ := hrel
      by_cases hlt : k < CF.length
      · obtain ⟨b1, o1, rfl, hat1⟩ := (HRA.out.keep hB).at (by omega)
        obtain ⟨b2, o2, rfl, hat2⟩ := (HRB.out.keep hB).at (by omega)
        have h1 := hat1 k _ (getD_some CF k hlt)
        have h2 := hat2 k _ (getD_some CG k (by omega))
        have hpl := picks_length (freeB CF CG) k
        have hsz := hB.size
        have HO := Lib.hid ho
        have HB := Lib.hid hB
        have hzb : freeB CF CG k = (decide (CG.getD k 0 = 0) && decide (0 < CF.getD k 0)) := rfl
        have hk1 : (k : Int) < CG.length := by omega
        cases hx : freeB CF CG k
        · have HT := Lib.hid (picks_no (freeB CF CG) k hx)
          rw [hx] at hzb
          have HZ := Lib.hid hzb
          generalize CF.getD k 0 = x at *
          generalize CG.getD k 0 = y at *
          clear hat1 hat2 ho hB hzb hx
          by_cases hx0 : 0 < x
          · have d1 : decide (0 < x) = true := decide_eq_true hx0
            have d2 : (y == 0) = false := by
              have := HZ.out
              rw [d1, Bool.and_true] at this
              have : ¬ y = 0 := of_decide_eq_false this.symm
              simpa using this
            clear hx0
            go_wp2
            go_roundw
            case rel => exact ⟨k + 1, by omega, by go_num, by rw [HT.out]; exact HO.out, HB.out⟩
            case measure => simp [intOf]; omega
          · have d1 : decide (0 < x) = false := decide_eq_false hx0
            clear hx0
            go_wp2
            go_roundw
            case rel => exact ⟨k + 1, by omega, by go_num, by rw [HT.out]; exact HO.out, HB.out⟩
            case measure => simp [intOf]; omega
        · have HT := Lib.hid (picks_yes (freeB CF CG) k hx)
          rw [hx] at hzb
          have hb9 := Bool.and_eq_true_iff.1 hzb.symm
          have d1 := hb9.2
          have d2 : CG.getD k 0 = 0 := of_decide_eq_true hb9.1
          rw [d2] at h2
          generalize CF.getD k 0 = x at *
          generalize picks (freeB CF CG) k = R at *
          clear hat1 hat2 ho hB hzb hx hb9 d2
          go_wp2_with (at_builtin; refine wpList_append_x _ rfl _ _ 51 rfl w5.heap.size 65 i0 (.agg #[.int .i64 0, .int .i64 0, .int .i64 0]) 3 24 Tryz.underlying51 hi hz0 hz1 hz2 rfl (by decide) _ _ _ rfl (World.ownsRow.alloc HO.out _) ⟨wr.heap.size, 0, none⟩ 1 1 (E.cells (single k)) rfl rfl (newE _ _ (by simp) _ _) (cellsE_one _) (by first | omega | (simp only [List.length_nil, List.length_append, List.length_cons]; omega)) (by first | (simp only [maxLen]; omega) | (simp only [maxLen, List.length_nil, List.length_append, List.length_cons]; omega)) (by simp only [World.size_alloc]; omega) ?_; intro v1 w1 hown1 hgrow1 hwhere1)
          have hB4 := Lib.hid ((HB.out.onAlloc (.cells #[.int .i64 0, .int .i64 1, .int .i64 k] 65)).onGrow hgrow1 fun j hj => (HO.out.lt j hj).1)
          have HO4 := Lib.hid (OwnE.snoc hown1 (by simp))
          clear hown1 hgrow1 hwhere1
          go_roundw
          case rel => exact ⟨k + 1, by omega, by go_num, by rw [HT.out]; exact HO4.out, hB4.out⟩
          case measure => simp [intOf]; omega
      · obtain rfl : k = CF.length := by omega
        have hpl := picks_length (freeB CF CG) CF.length
        obtain ⟨a9, c9, rfl, hr9⟩ := ho.rd (by omega)
        have HW := Lib.hid (picks_wf (freeB CF CG) CF.length (by omega))
        have HFR9 := HFR.out
        generalize picks (freeB CF CG) CF.length = R at *
        have HB9 := Lib.hid (HWB.out.on hB)
        clear ho hB
        go_wp2_with fail
        refine (rruns_any R _ _ _ hr9 HW.out).mono ?_
        rintro e w6 ⟨v, rfl, ho, hb⟩
        have hsz := HB9.out.size
        go_wp2_with fail
        go_ret
        exact ⟨_, rfl, by rw [HFR9]; exact ho.mono hsz, HB9.out.on hb⟩
end Go.Proofs.YtpakjddfnhnndaaGreat
