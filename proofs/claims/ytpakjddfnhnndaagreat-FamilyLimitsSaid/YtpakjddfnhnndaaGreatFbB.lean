/-
  package family: Unmap.
  Conditions: as each theorem says.
-/
import Derived.Test.YtpakjddfnhnndaaGreatFbA
namespace Go.Proofs.YtpakjddfnhnndaaGreat
set_option linter.unusedSimpArgs false
set_option linter.unusedVariables false
set_option maxRecDepth 100000
open Go.RowKit Go.Maps

theorem VH.setp {W : World} {X : Nat} {n r : Int} {a : Option Addr} (h : VH W X n r a) (a' : Option Addr) : VH (W.setCell ⟨X, 2, none⟩ (.pointer a')) X n r a' :=
  ⟨(World.cell?_setCell_other _ _ _ _ (by simp)).trans h.x0, (World.cell?_setCell_other _ _ _ _ (by simp)).trans h.x1, World.cell?_setCell_same _ _ _ h.x2, by rw [World.frozen?_setCell]; exact h.f1, by rw [World.frozen?_setCell]; exact h.f2, cell_none (by decide) h.x7⟩
theorem FH.setAway {w W : World} {a : Option Addr} {n c : Nat} {mb : Option Nat} {R X i : Nat} {u : Value} (h : FH w W a n c mb R) (hX : R < X) : FH w (W.setCell ⟨X, i, none⟩ u) a n c mb R := by
  have hle := h.rf.le
  have hne : R ≠ X := by omega
  have hne2 : w.heap.size ≠ X := by omega
  exact ⟨(cell_far hne2).trans h.b0, (cell_far hne2).trans h.b1, (cell_far hne).trans h.rf.r0, (cell_far hne).trans h.rf.r1, by rw [World.frozen?_setCell]; exact h.rf.f0, by rw [World.frozen?_setCell]; exact h.rf.f1, fun i hi => (cell_far hne).trans (h.rf.r2 i hi), h.rf.le, h.rf.bel.setCell (p := ⟨X, i, none⟩) (by simp only; omega) u⟩
set_option maxHeartbeats 16000000 in
theorem unmap_is (F : Fam) (fv : Value) (nm : List UInt8) (p n : Int) (w : World) (hF : F.ok) (hs : ∀ v ∈ F.vs, v.l.length ≤ 9000) (h : FamV w fv F) (hnm : nm.length ≤ maxLen) (hp : -9223372036854775808 ≤ p ∧ p ≤ 9223372036854775807) :
    Calls Tryz.prog 61 #[fv, nmV nm, .int .i64 p, .int .i64 n] w (FamPost3 w (unmapF F nm p n).1 (unmapF F nm p n).2.1 (unmapF F nm p n).2.2) := by
  obtain ⟨a, c, mb, rfl, hr, ts, hts, hT⟩ := h
  have hlen := ts_len hF hts
  have H0 := Lib.hid (FH.init w a F.N c mb)
  have HFI := Lib.hid (ffind_is a F.N c mb ts nm p n _ (hT.keep H0.out.rf.bel) hnm (ts_bounds hF hts) hp)
  have HT := Lib.hid hT
  have HR := Lib.hid hr
  have HTS := Lib.hid hts
  have HF := Lib.hid hF
  have HS := Lib.hid hs
  have hgv : getV F.vs nm = (getT ts nm).map VT.vol := by rw [← hts, getT_vol]
  obtain ⟨v1, e1, hfc, hres⟩ : ∃ (v1 : VT) (e1 : Int), findC ts nm p n = (v1.val, e1) ∧ ((e1 ≠ 0 ∧ unmapF F nm p n = (zeroF, [], e1)) ∨ (e1 = 0 ∧ v1 ∈ ts ∧ v1.nm = nm ∧ inB p n v1.n = true ∧ getV F.vs v1.vol.nm = some v1.vol ∧ unmapF F nm p n = (F.with (v1.vol.set (cutL v1.t.toL p n)), freedF F (F.with (v1.vol.set (cutL v1.t.toL p n))), 0))) := by
    unfold unmapF findC
    rw [hgv]
    cases hg : getT ts nm with
    | none => exact ⟨⟨[], 0, 0, none, .nil⟩, 9, rfl, .inl ⟨by decide, rfl⟩⟩
    | some v =>
      obtain ⟨hm, hvn⟩ := getT_mem hg
      cases hib : inB p n v.n
      · have h1 : inB p n v.vol.n = false := hib
        simp only [Option.map_some, h1, if_true]
        exact ⟨⟨[], 0, 0, none, .nil⟩, 2, by simp [hib], .inl ⟨by decide, rfl⟩⟩
      · have h1 : inB p n v.vol.n = true := hib
        simp only [Option.map_some, h1, Bool.true_eq_false, if_false]
        exact ⟨v, 0, by simp [hib], .inr ⟨rfl, hm, hvn, hib, by show getV F.vs v.nm = _; rw [hvn, hgv, hg]; rfl, rfl⟩⟩
  rw [hfc] at HFI
  clear hr hT hts hF hs hfc hgv
  rcases hres with ⟨h0, hc⟩ | ⟨rfl, hvm, hvn, hib, hgw, hc⟩
  · rw [hc]
    clear hc
    go_enter Tryz.func61, Tryz.ntmps61
    go_wp2_with fail
    refine HFI.out.mono ?_
    rintro e w1 ⟨rfl, hb⟩
    have HH := Lib.hid ((H0.out.later hb).later ((Below.refl _ _).onAlloc (.cells #[.int .i64 v1.n, .int .i64 v1.r, .pointer v1.a] 114)))
    have b0 := HH.out.b0
    have b1 := HH.out.b1
    have r0 := HH.out.rf.r0
    have r1 := HH.out.rf.r1
    have f0 := HH.out.rf.f0
    have f1 := HH.out.rf.f1
    clear hb
    go_wp2_with fail
    obtain ⟨j0, j1⟩ := HH.out.rf.cells (u := .slice none 0 0) (v := .map none)
    (try simp only [Exit.inBlock, Exit.then])
    refine bodyPost_ret (v := .tuple #[.agg #[.slice none 0 0, .map none], .slice none 0 0, .int .i64 e1]) (by first | (rw [results_cell_tmp rfl]; go_simp; done) | (rw [results_cell_tmp2 rfl]; go_simp; done) | (rw [results_cell_one rfl]; go_simp; done)) rfl ?_
    exact ⟨_, _, rfl, FamV.zero _, OwnE.nil _ _, HH.out.rf.below⟩
  · rw [hc]
    have hvk := RdV.fit HF.out HTS.out v1 hvm
    have hib' : inB p n v1.vol.n = true := hib
    obtain ⟨G, hG⟩ : ∃ G, F.with (v1.vol.set (cutL v1.t.toL p n)) = G := ⟨_, rfl⟩
    have hGok := (hvk.cut hib').2
    have hGo : G.ok := by rw [← hG]; exact HF.out.with hGok hgw
    have hGN : G.N = F.N := by rw [← hG]; rfl
    have hGv : G.vs = putV F.vs (v1.vol.set (cutL v1.t.toL p n)) := by rw [← hG]; rfl
    obtain ⟨g1, g2, g3⟩ : permB F.N (inL v1.t.toL p n) = true ∧ chgL F.C (inL v1.t.toL p n) (-1) = G.C ∧ runsL (freedL (chgL F.C (inL v1.t.toL p n) (-1)) (inL v1.t.toL p n)) = freedF F G := by rw [← hG]; exact chg_unmap HF.out hgw hib'
    have hfs := freedF_short F G
    rw [hG]
    obtain ⟨Lf, hLf⟩ : ∃ L, freedF F G = L := ⟨_, rfl⟩
    rw [hLf] at g3 hfs ⊢
    rw [g2] at g3
    have HGO := Lib.hid hGo
    have HGN := Lib.hid hGN
    have HGV := Lib.hid hGv
    have HG1 := Lib.hid g1
    have HG2 := Lib.hid g2
    have HG3 := Lib.hid g3
    clear hG hGo hGN hGv hLf
    have HVT := Lib.hid (HT.out.1 v1 hvm)
    have HVK := Lib.hid hvk
    have HVM := Lib.hid hvm
    have HVN := Lib.hid hvn
    have HW := Lib.hid (inB_within hib' hvk.n2)
    clear hc hvm hvn hib hgw hvk hib' g1 g2 g3 hGok
    go_enter Tryz.func61, Tryz.ntmps61
    go_wp2_with fail
    refine HFI.out.mono ?_
    rintro e w1 ⟨rfl, hb⟩
    have HH := Lib.hid ((H0.out.later hb).later ((Below.refl _ _).onAlloc (.cells #[.int .i64 v1.n, .int .i64 v1.r, .pointer v1.a] 114)))
    have HV := Lib.hid (VH.new w1 v1.n v1.r v1.a 114)
    have HRX : Hid (w.heap.size + 1 < w1.heap.size) := Lib.hid (H0.out.later hb).rf.lt
    clear hb
    go_wp2_with fail
    refine (cut_tree' v1.t p n (.pointer v1.a) _ (IsTr.keep HH.out.rf.bel v1.t HVT.out) HVK.out.valid HVK.out.norm HW.out).mono ?_
    rintro e w2 ⟨tv, t2, sv, rfl, ht2, hl2, ho2, hb2⟩
    obtain ⟨a2, rfl⟩ := ht2.form
    have hil := (inL_facts v1.t.toL p n (validB_ok HVK.out.valid)).1
    have hsl : v1.t.toL.length ≤ 9000 := HS.out v1.vol (by rw [← HTS.out]; exact List.mem_map.2 ⟨v1, HVM.out, rfl⟩)
    obtain ⟨sa, sc, rfl, _⟩ := ho2.rd (by omega)
    have hX0 := HV.out.lt
    have HH2 := HH.out.later hb2
    have HV2 := HV.out.later hb2
    have x0 := HV2.x0
    have x1 := HV2.x1
    have x2 := HV2.x2
    have fx2 := HV2.f2
    have hk3 := (Below.refl w2.heap.size w2).onAlloc (.cells #[.pointer a2] 112)
    have HHS := Lib.hid ((HH2.later hk3).setAway (X := w1.heap.size) (i := 2) (u := .pointer a2) HRX.out)
    have HVS := Lib.hid ((HV2.later hk3).setp a2)
    have HTS2 := Lib.hid (IsTr.away (i := 2) (u := .pointer a2) (HV2.later hk3).x7 t2 (IsTr.keep hk3 t2 ht2))
    have hoS := OwnE.far (OwnE.keep ho2 hk3) ⟨w1.heap.size, 2, none⟩ (.pointer a2) (fun h => by have h9 := (ho2.lt w1.heap.size h).1; omega)
    obtain ⟨sa', sc', hse, hrd3⟩ := hoS.rd (by omega)
    injection hse with hs1 hs2 hs3
    subst hs1
    have HDR : Hid (Calls Tryz.prog 77 #[.agg #[.slice a F.N c], .slice sa (inL v1.t.toL p n).length sc] ((w2.alloc (.cells #[.pointer a2] 112)).setCell ⟨w1.heap.size, 2, none⟩ (.pointer a2)) fun e w'' => ∃ a5 c5 fa fc, e = .returned (.tuple #[.agg #[.slice a5 F.N c5], .slice fa Lf.length fc, .int .i64 0]) ∧ RdI w'' a5 G.C ∧ OwnE w'' ((w2.alloc (.cells #[.pointer a2] 112)).setCell ⟨w1.heap.size, 2, none⟩ (.pointer a2)).heap.size (.slice fa Lf.length fc) Lf ∧ Below ((w2.alloc (.cells #[.pointer a2] 112)).setCell ⟨w1.heap.size, 2, none⟩ (.pointer a2)).heap.size ((w2.alloc (.cells #[.pointer a2] 112)).setCell ⟨w1.heap.size, 2, none⟩ (.pointer a2)) w'') := Lib.hid (by
      have h5 := drop_yes F.C (inL v1.t.toL p n) a sa c sc _ (HR.out.keep HHS.out.rf.bel) hrd3 (wfL_of_ok (validB_ok (inL_valid _ p n HVK.out.valid))) (by rw [F.C_length]; exact HG1.out) (inR_mono HF.out.range (by omega) (by omega)) (by omega) (by rw [HG2.out]; exact neg_range HGO.out.range)
      rw [F.C_length] at h5
      refine h5.mono ?_
      rintro e w'' ⟨v5, f5, rfl, ho5, hf5, hb5⟩
      rw [HG2.out] at ho5 hf5
      rw [HG3.out] at hf5
      obtain ⟨a5, c5, rfl, hr5⟩ := ho5.rd (by rw [Fam.C_length]; exact HGO.out.hN)
      obtain ⟨fa, fc, rfl, _⟩ := hf5.rd (by omega)
      rw [Fam.C_length, HGN.out]
      exact ⟨a5, c5, fa, fc, rfl, hr5, hf5, hb5⟩)
    have HL2 := Lib.hid hl2
    have b0 := HHS.out.b0
    have b1 := HHS.out.b1
    have HSZ0 : Hid (w.heap.size + 1 < ((w2.alloc (.cells #[.pointer a2] 112)).setCell ⟨w1.heap.size, 2, none⟩ (.pointer a2)).heap.size) := Lib.hid HHS.out.rf.lt
    clear ho2 hoS hb2 ht2 hl2 hrd3 hs2 hs3 hil hsl hk3 HH2 HV2 hX0 hfs
    go_wp2_with fail
    refine HDR.out.mono ?_
    rintro e w4 ⟨a5, c5, fa, fc, rfl, hr5, hf5, hb4⟩
    have hk4 := (Below.refl w4.heap.size w4).onAlloc (.cells #[.slice a5 F.N c5] 25)
    have HH4 := HHS.out.later hb4
    have HV4 := HVS.out.later hb4
    have b0 := HH4.b0
    have b1 := HH4.b1
    have x0 := HV4.x0
    have x1 := HV4.x1
    have x2 := HV4.x2
    have HHE := Lib.hid (HH4.later hk4)
    have HTE := Lib.hid (IsTr.keep hk4 t2 (IsTr.keep hb4 t2 HTS2.out))
    have HOE := Lib.hid (hr5.keep hk4)
    have HFE := Lib.hid (OwnE.mono (OwnE.keep hf5 hk4) HSZ0.out)
    clear hr5 hf5 hb4 hk4 HH4 HV4 HDR HHS HVS HTS2
    go_wp2_with fail
    refine (with_is a F.N c a5 F.N c5 mb ts ⟨nm, v1.n, v1.r, a2, t2⟩ _ (HT.out.keep HHE.out.rf.bel) HTE.out hnm (by omega)).mono ?_
    rintro e w5 ⟨b, rfl, hT5, hb5⟩
    have hR5 := HHE.out.rf.later hb5
    have r0 := hR5.r0
    have r1' := hR5.r1
    have f0' := hR5.f0
    have f1' := hR5.f1
    have hvol : (⟨nm, v1.n, v1.r, a2, t2⟩ : VT).vol = v1.vol.set (cutL v1.t.toL p n) := by
      show (⟨nm, v1.n, v1.r, t2.toL⟩ : Vol) = ⟨v1.nm, v1.n, v1.r, cutL v1.t.toL p n⟩
      rw [HVN.out, HL2.out]
    have hfam : FamV w5 (.agg #[.slice a5 F.N c5, .map (some b)]) G := by
      rw [← HGN.out]
      exact FamV.mk' (HOE.out.keep hb5) hT5 (by rw [put_vol, HTS.out, hvol, HGV.out])
    have HQ1 := Lib.hid (hR5.below (u := .slice a5 F.N c5) (v := .map (some b)))
    have HQ2 := Lib.hid (hR5.fam (u := .slice a5 F.N c5) (v := .map (some b)) hfam)
    have HQ3 := Lib.hid (fam2_own (R := w.heap.size + 1) (u := .slice a5 F.N c5) (v := .map (some b)) (OwnE.keep HFE.out hb5) (Nat.lt_succ_self _))
    have HR5 := Lib.hid hR5
    clear hb5 hT5 hvol hfam hR5
    go_wp2_with fail
    obtain ⟨j0, j1⟩ := HR5.out.cells (u := .slice a5 F.N c5) (v := .map (some b))
    (try simp only [Exit.inBlock, Exit.then])
    refine bodyPost_ret (v := .tuple #[.agg #[.slice a5 F.N c5, .map (some b)], .slice fa Lf.length fc, .int .i64 0]) (by first | (rw [results_cell_tmp rfl]; go_simp; done) | (rw [results_cell_tmp2 rfl]; go_simp; done) | (rw [results_cell_one rfl]; go_simp; done)) rfl ?_
    exact ⟨_, _, rfl, HQ2.out, OwnE.mono HQ3.out (by omega), HQ1.out⟩
end Go.Proofs.YtpakjddfnhnndaaGreat
