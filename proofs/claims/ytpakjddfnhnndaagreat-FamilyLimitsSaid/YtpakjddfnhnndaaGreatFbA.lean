/-
  package family: Delete.
  Conditions: as each theorem says.
-/
import Derived.Test.YtpakjddfnhnndaaGreatFaO
namespace Go.Proofs.YtpakjddfnhnndaaGreat
set_option linter.unusedSimpArgs false
set_option linter.unusedVariables false
set_option maxRecDepth 100000
open Go.RowKit Go.Maps

def FamPost3 (w : World) (G : Fam) (L : List E) (e0 : Int) (e : Ending) (w' : World) : Prop := ∃ gv sv, e = .returned (.tuple #[gv, sv, .int .i64 e0]) ∧ FamV w' gv G ∧ OwnE w' w.heap.size sv L ∧ Below w.heap.size w w'
theorem neg_range {hi : Int} {C : List Int} (h : inR 0 hi C) : negB C = false := by
  unfold negB
  rw [List.any_eq_false]
  intro x hx
  have := (h x hx).1
  simp
  omega
theorem freedF_short (F G : Fam) : (freedF F G).length ≤ 65536 := canon_short (runs_facts _).1
/-- What the statement 'c, freed, e := f.counts.Drop(v.extents())' leaves. -/
def DropC (w : World) (a : Option Addr) (n c : Nat) (mb : Option Nat) (R : Nat) (C : List Int) (L : List E) (y f e0 : Value) (W : World) : Prop :=
  ∃ Y a' c' sa sc, y = .pointer (some ⟨Y, 0, none⟩) ∧ f = .slice sa L.length sc ∧ e0 = .int .i64 0 ∧ FH w W a n c mb R ∧ Y ≠ R ∧ W.cell? ⟨Y, 0, none⟩ = some (.slice a' n c') ∧ OwnI W (R + 1) (.slice a' n c') C ∧ OwnE W (R + 1) (.slice sa L.length sc) L
theorem dropC_new {w W w5 : World} {a : Option Addr} {n c : Nat} {mb : Option Nat} {R B : Nat} {C : List Int} {L : List E} {a5 : Option Addr} {c5 : Nat} {sa : Option Addr} {sc : Nat} {t : TypeId} (hH : FH w W a n c mb R) (hB : Below W.drew.heap.size W.drew w5) (ho : OwnI w5 B (.slice a5 n c5) C) (hf : OwnE w5 B (.slice sa L.length sc) L) (hX : R < B) :
    DropC w a n c mb R C L (.pointer (some ⟨w5.heap.size, 0, none⟩)) (.slice sa L.length sc) (.int .i64 0) (w5.alloc (.cells #[.slice a5 n c5] t)) := by
  have hb := ((Below.refl W.heap.size W).drew.on hB).onAlloc (.cells #[.slice a5 n c5] t)
  have hlt : R < w5.heap.size := Nat.lt_of_lt_of_le hH.rf.lt hB.size
  have hk := (Below.refl w5.heap.size w5).onAlloc (.cells #[.slice a5 n c5] t)
  exact ⟨_, a5, c5, sa, sc, rfl, rfl, rfl, hH.later hb, by omega, by simp, (ho.keep hk).mono (by omega), (hf.keep hk).mono (by omega)⟩
theorem dropC_old {w W w5 : World} {a : Option Addr} {n c : Nat} {mb : Option Nat} {R B Y : Nat} {C : List Int} {L : List E} {a5 : Option Addr} {c5 : Nat} {sa : Option Addr} {sc : Nat} {u : Value} (hH : FH w W a n c mb R) (hB : Below W.drew.heap.size W.drew w5) (ho : OwnI w5 B (.slice a5 n c5) C) (hf : OwnE w5 B (.slice sa L.length sc) L) (hX : R < B) (hY : W.drew.heap.size ≤ Y) (hYB : Y < B) (hq : w5.cell? ⟨Y, 0, none⟩ = some u) :
    DropC w a n c mb R C L (.pointer (some ⟨Y, 0, none⟩)) (.slice sa L.length sc) (.int .i64 0) (w5.setCell ⟨Y, 0, none⟩ (.slice a5 n c5)) := by
  have hb := (Below.refl W.heap.size W).drew.on (hB.setCell (p := ⟨Y, 0, none⟩) hY (.slice a5 n c5))
  have hlt := hH.rf.lt
  have hY' : W.heap.size ≤ Y := hY
  exact ⟨_, a5, c5, sa, sc, rfl, rfl, rfl, hH.later hb, by omega, World.cell?_setCell_same _ _ _ hq, (ho.away _ _ fun h => by have := (ho.lt Y h).1; omega).mono (by omega), (OwnE.far hf _ _ fun h => by have := (hf.lt Y h).1; omega).mono (by omega)⟩
set_option maxHeartbeats 16000000 in
theorem delete_is (F : Fam) (fv : Value) (nm : List UInt8) (w : World) (hF : F.ok) (hs : ∀ v ∈ F.vs, v.l.length ≤ 9000) (h : FamV w fv F) (hnm : nm.length ≤ maxLen) :
    Calls Tryz.prog 32 #[fv, nmV nm] w (FamPost3 w (deleteF F nm).1 (deleteF F nm).2.1 (deleteF F nm).2.2) := by
  obtain ⟨a, c, mb, rfl, hr, ts, hts, hT⟩ := h
  have hlen := ts_len hF hts
  have H0 := Lib.hid (FH.init w a F.N c mb)
  have HT := Lib.hid hT
  have HR := Lib.hid hr
  have HTS := Lib.hid hts
  have HF := Lib.hid hF
  have HS := Lib.hid hs
  have hl := look_run (hT.keep H0.out.rf.bel) hnm
  have hgv : getV F.vs nm = (getT ts nm).map VT.vol := by rw [← hts, getT_vol]
  clear hr hT hts hF hs
  cases hg : getT ts nm with
  | none =>
    rw [lookB_none hg] at hl
    rw [show deleteF F nm = (zeroF, [], 9) by simp [deleteF, hgv, hg]]
    have HH := Lib.hid (H0.out.later ((Below.refl _ _).onAlloc (.cells #[.int .i64 0, .int .i64 0, .pointer none] 114)))
    have b0 := HH.out.b0
    have b1 := HH.out.b1
    have r0 := HH.out.rf.r0
    have r1 := HH.out.rf.r1
    have f0 := HH.out.rf.f0
    have f1 := HH.out.rf.f1
    clear hg hgv
    go_enter Tryz.func32, Tryz.ntmps32
    go_wp2_with fail
    obtain ⟨j0, j1⟩ := HH.out.rf.cells (u := .slice none 0 0) (v := .map none)
    (try simp only [Exit.inBlock, Exit.then])
    refine bodyPost_ret (v := .tuple #[.agg #[.slice none 0 0, .map none], .slice none 0 0, .int .i64 9]) (by first | (rw [results_cell_tmp rfl]; go_simp; done) | (rw [results_cell_tmp2 rfl]; go_simp; done) | (rw [results_cell_one rfl]; go_simp; done)) rfl ?_
    exact ⟨_, _, rfl, FamV.zero _, OwnE.nil _ _, by first | exact HH.out.rf.below | ((repeat (first | exact Below.refl _ _ | assumption | refine Below.onNext ?_ _ | refine Below.onAlloc ?_ _ | refine Below.setCell ?_ (by simp) _ | refine Below.drew ?_)); done)⟩
  | some v =>
    rw [lookB_some hg] at hl
    have hvm := (getT_mem hg).1
    have hvn := (getT_mem hg).2
    have hvk := RdV.fit HF.out HTS.out v hvm
    have HVT := Lib.hid (HT.out.1 v hvm)
    have HVK := Lib.hid hvk
    have HVM := Lib.hid hvm
    obtain ⟨b, rfl, hmap⟩ : ∃ b, mb = some b ∧ mapIs w b ts := by
      rcases HT.out.2 with ⟨_, h0⟩ | h0
      · rw [h0] at hvm; simp at hvm
      · exact h0
    have HMAP := Lib.hid hmap
    have hgw : getV F.vs v.vol.nm = some v.vol := by show getV F.vs v.nm = _; rw [hvn, hgv, hg]; rfl
    have hnv : nm = v.vol.nm := hvn.symm
    rw [show deleteF F nm = (⟨F.N, delV F.vs nm⟩, freedF F ⟨F.N, delV F.vs nm⟩, 0) by simp [deleteF, hgv, hg]]
    have HCD := Lib.hid (chg_delete HF.out hgw)
    have HFD := Lib.hid (freed_delete HF.out hgw)
    rw [← hnv] at HCD HFD
    have hH1 := H0.out.later ((Below.refl _ _).onAlloc (.cells #[.int .i64 v.n, .int .i64 v.r, .pointer v.a] 114))
    have hv1 := VH.new ((w.alloc (.cells #[.slice a F.N c, .map (some b)] 28)).alloc (.cells #[.slice none 0 0, .map none] 28)) v.n v.r v.a 114
    rw [show ((w.alloc (.cells #[.slice a F.N c, .map (some b)] 28)).alloc (.cells #[.slice none 0 0, .map none] 28)).heap.size = w.heap.size + 1 + 1 by simp] at hv1
    have HH := Lib.hid hH1
    have HV := Lib.hid hv1
    have HL2 := Lib.hid hl
    clear hvm hvk hH1 hv1 hmap hgw hnv hvn hgv hg
    go_enter Tryz.func32, Tryz.ntmps32
    go_upto_region 4 with fail
    obtain ⟨W, hW⟩ : ∃ W, (((w.alloc (.cells #[.slice a F.N c, .map (some b)] 28)).alloc (.cells #[.slice none 0 0, .map none] 28)).alloc (.cells #[.int .i64 v.n, .int .i64 v.r, .pointer v.a] 114)) = W := ⟨_, rfl⟩
    rw [hW] at HH HV ⊢
    clear hW hl
    have b0 := HH.out.b0
    have b1 := HH.out.b1
    have x0 := HV.out.x0
    have x1 := HV.out.x1
    have x2 := HV.out.x2
    have HVL := Lib.hid (fun w' (hb : Below W.heap.size W w') => extents_is v.n v.r v.a v.t w' (IsTr.keep (HH.out.rf.bel.on hb) v.t HVT.out) (by have := HVK.out.short.1; simp only [VT.vol] at this; omega))
    have HWF := Lib.hid (wfL_of_ok (validB_ok HVK.out.valid))
    have HPM : Hid (permB F.C.length v.t.toL = true) := Lib.hid (by rw [F.C_length]; exact HVK.out.perm)
    have HRG : Hid (inR 0 1000000000 F.C) := Lib.hid (inR_mono HF.out.range (by omega) (by omega))
    have HRI := Lib.hid (HR.out.keep HH.out.rf.bel)
    have HSL : Hid (v.t.toL.length ≤ 9000) := Lib.hid (HS.out v.vol (by rw [← HTS.out]; exact List.mem_map.2 ⟨v, HVM.out, rfl⟩))
    have HGO := Lib.hid (HF.out.del nm)
    have HAD : Hid (∀ w' sa sc, Below W.heap.size W w' → Rd w' sa v.t.toL → Calls Tryz.prog 77 #[.agg #[.slice a F.N c], .slice sa v.t.toL.length sc] w' fun e w'' => ∃ a5 c5 fa fc, e = .returned (.tuple #[.agg #[.slice a5 F.N c5], .slice fa (freedF F ⟨F.N, delV F.vs nm⟩).length fc, .int .i64 0]) ∧ OwnI w'' w'.heap.size (.slice a5 F.N c5) (⟨F.N, delV F.vs nm⟩ : Fam).C ∧ OwnE w'' w'.heap.size (.slice fa (freedF F ⟨F.N, delV F.vs nm⟩).length fc) (freedF F ⟨F.N, delV F.vs nm⟩) ∧ Below w'.heap.size w' w'') := Lib.hid (fun w' sa sc hb hrd => by
      have hcd : chgL F.C v.t.toL (-1) = (⟨F.N, delV F.vs nm⟩ : Fam).C := HCD.out
      have hfd : runsL (freedL (chgL F.C v.t.toL (-1)) v.t.toL) = freedF F ⟨F.N, delV F.vs nm⟩ := HFD.out
      have h5 := drop_yes F.C v.t.toL a sa c sc w' (HRI.out.keep hb) hrd HWF.out HPM.out HRG.out (by have := HSL.out; omega) (by rw [hcd]; exact neg_range HGO.out.range)
      rw [F.C_length] at h5
      refine h5.mono ?_
      rintro e w'' ⟨v5, f5, rfl, ho5, hf5, hb5⟩
      rw [hfd] at hf5
      rw [hcd] at ho5
      obtain ⟨a5, c5, rfl, _⟩ := ho5.rd (by rw [Fam.C_length]; exact HF.out.hN)
      obtain ⟨fa, fc, rfl, _⟩ := hf5.rd (by have := freedF_short F ⟨F.N, delV F.vs nm⟩; omega)
      rw [Fam.C_length] at ho5 ⊢
      exact ⟨a5, c5, fa, fc, rfl, ho5, hf5, hb5⟩)
    have HSK := Lib.hid (fun w' (hB : Below W.drew.heap.size W.drew w') => (⟨hB.keep b0, hB.keep x0, hB.keep x1, hB.keep x2, hB⟩ : w'.cell? ⟨w.heap.size, 0, none⟩ = some (.slice a F.N c) ∧ w'.cell? ⟨w.heap.size + 1 + 1, 0, none⟩ = some (.int .i64 v.n) ∧ w'.cell? ⟨w.heap.size + 1 + 1, 1, none⟩ = some (.int .i64 v.r) ∧ w'.cell? ⟨w.heap.size + 1 + 1, 2, none⟩ = some (.pointer v.a) ∧ Below W.drew.heap.size W.drew w'))
    clear HWF HPM HRG HCD HFD
    go_cut [9, 10, 11] from 9 to 31 (fun y f e0 wx => DropC w a F.N c (some b) (w.heap.size + 1) (⟨F.N, delV F.vs nm⟩ : Fam).C (freedF F ⟨F.N, delV F.vs nm⟩) y f e0 wx)
    case first =>
      go_region_held3 (fun w' => w'.cell? ⟨w.heap.size, 0, none⟩ = some (.slice a F.N c) ∧ w'.cell? ⟨w.heap.size + 1 + 1, 0, none⟩ = some (.int .i64 v.n) ∧ w'.cell? ⟨w.heap.size + 1 + 1, 1, none⟩ = some (.int .i64 v.r) ∧ w'.cell? ⟨w.heap.size + 1 + 1, 2, none⟩ = some (.pointer v.a) ∧ Below W.drew.heap.size W.drew w')
        (first
          | exact HSK.out _ (Below.refl _ _)
          | exact HSK.out _ hB5
          | exact HSK.out _ (hB5.onAlloc _)
          | exact HSK.out _ (hB5.setCell (Nat.le_refl _) _)
          | exact HSK.out _ (hB5.setCell hz4 _)
          | exact HSK.out _ hB4
          | exact HSK.out _ (hB4.onAlloc _)
          | exact HSK.out _ ((Below.refl _ _).onAlloc _))
        (first
          | (go_at_call 69; have hH := ‹_ ∧ _ ∧ _ ∧ _ ∧ Below W.drew.heap.size W.drew _›; refine (HVL.out _ ((Below.refl W.heap.size W).drew.on hH.2.2.2.2)).mono ?_; rintro e w4 ⟨sv, rfl, ho4, hb4⟩; obtain ⟨sa, sc, rfl, hrd4⟩ := ho4.rd (by have := HSL.out; omega); have hB4 := hH.2.2.2.2.on hb4; have hz4 := hB4.size; (try (have hq1 := keepNewD hb4; have q1 := hq1.1; have qf1 := hq1.2; clear hq1)); (try (have hq1 := keepNewS hb4; have q1 := hq1.1; have qf1 := hq1.2; clear hq1)))
          | (go_at_call 77; have hH := ‹_ ∧ _ ∧ _ ∧ _ ∧ Below W.drew.heap.size W.drew _›; refine (HAD.out _ sa sc ((Below.refl W.heap.size W).drew.on hH.2.2.2.2) (by first | exact hrd4 | exact hrd4.keep ((Below.refl _ _).onAlloc _))).mono ?_; rintro e w5 ⟨a5, c5, fa, fc, rfl, ho5, hf5, hb5⟩; have hB5 := hH.2.2.2.2.on hb5; (try have q5 := hb5.keep q1); (try have qf5 := hb5.keepF q1 qf1); (try (have hq1 := keepNewS hb5; have q5 := hq1.1; have qf5 := hq1.2; clear hq1))))
      · have HQ := Lib.hid (dropC_new (t := 25) HH.out hB5 ho5 hf5 (Nat.lt_of_lt_of_le HH.out.rf.lt hz4))
        clear ho5 hf5 hB5 hB4 hb5 hb4 ho4 hrd4 hz4
        go_wp2_with fail
        go_meet
        exact HQ.out
      · have HQ := Lib.hid (dropC_old HH.out hB5 ho5 hf5 (by have := HH.out.rf.lt; have h9 : W.heap.size ≤ w4.heap.size := hz4; simp; omega) hz4 (by simp) q5)
        clear ho5 hf5 hB5 hB4 hb5 hb4 ho4 hrd4 hz4 q5 qf5
        go_wp2_with fail
        go_meet
        exact HQ.out
      · have HQ := Lib.hid (dropC_old HH.out hB5 ho5 hf5 (Nat.lt_of_lt_of_le HH.out.rf.lt hz4) (Nat.le_refl _) (by have := World.block_lt_of_cell? w4 _ q1; exact this) q5)
        clear ho5 hf5 hB5 hB4 hb5 hb4 ho4 hrd4 hz4 q5 qf5 q1 qf1
        go_wp2_with fail
        go_meet
        exact HQ.out
    case rest =>
      obtain ⟨Y, a5, c5, fa, fc, rfl, rfl, rfl, hH, hYR, hcY, ho5, hf5⟩ := hcut
      have hB1 := hH.b1
      have HM := Lib.hid (map_below HMAP.out hH.rf.bel)
      have HHH := Lib.hid hH
      have HCY := Lib.hid hcY
      have HO5 := Lib.hid ho5
      have HF5 := Lib.hid hf5
      clear hH hcY ho5 hf5 b0 b1 x0 x1 x2 HVL HAD HSK HRI
      go_wp2_with fail
      refine (clone_some b ts _ HM.out).mono ?_
      rintro e w6 ⟨rfl, hm6, hb6⟩
      have HM6 := Lib.hid hm6
      have HB6 := Lib.hid hb6
      have hy6 := hb6.keep HCY.out
      clear hm6 hb6
      go_wp2_with (at_delete; refine wpList_delete_own _ rfl _ _ 26 9 rfl 114 strKeyed Tryz.underlying26 heldR wc.heap.size ts.length (dataT ts) rfl HM6.out _ (.string nm) rfl (nmKey hnm) ?_; intro w7 hown7 hturn7; have hb7 : Below wc.heap.size wc w7 := HB6.out.grown hturn7.grown HB6.out.size (fun k hk => by cases hk; exact Nat.le_refl _); have hy7 := hb7.keep HCY.out; have hR7 := HHH.out.rf.later hb7; have r0 := hR7.r0; have r1 := hR7.r1; have f0 := hR7.f0; have f1 := hR7.f1; have HOWN7 := Lib.hid hown7; have HR7 := Lib.hid hR7; have HB7 := Lib.hid hb7; clear hown7 hturn7 hb7 hR7)
      have hm7 := HOWN7.out
      rw [ent_del] at hm7
      have hT7 : RdT w7 (some wc.heap.size) (delT ts nm) := ⟨fun q hq => IsTr.keep HR7.out.bel _ (HT.out.1 q (mem_delT.1 hq).1), .inr ⟨_, rfl, map_exact hm7⟩⟩
      obtain ⟨a6, c6, he6, hri⟩ := HO5.out.rd (by rw [Fam.C_length]; exact HF.out.hN)
      injection he6 with he1 he2 he3
      subst he1
      have hfam : FamV w7 (.agg #[.slice a5 F.N c5, .map (some wc.heap.size)]) ⟨F.N, delV F.vs nm⟩ := FamV.mk' (hri.keep HB7.out) hT7 (by rw [delT_vol, HTS.out])
      have hfr := fam2_own (u := .slice a5 F.N c5) (v := .map (some wc.heap.size)) (OwnE.keep HF5.out HB7.out) (Nat.lt_succ_self _)
      have HQ1 := Lib.hid (HR7.out.below (u := .slice a5 F.N c5) (v := .map (some wc.heap.size)))
      have HQ2 := Lib.hid (HR7.out.fam (u := .slice a5 F.N c5) (v := .map (some wc.heap.size)) hfam)
      have HQ3 := Lib.hid hfr
      clear hfam hfr hri hT7 hm7 he2 he3 hlen
      obtain ⟨j0, j1⟩ := HR7.out.cells (u := .slice a5 F.N c5) (v := .map (some wc.heap.size))
      (try simp only [Exit.inBlock, Exit.then])
      refine bodyPost_ret (v := .tuple #[.agg #[.slice a5 F.N c5, .map (some wc.heap.size)], .slice fa (freedF F ⟨F.N, delV F.vs nm⟩).length fc, .int .i64 0]) (by first | (rw [results_cell_tmp rfl]; go_simp; done) | (rw [results_cell_tmp2 rfl]; go_simp; done) | (rw [results_cell_one rfl]; go_simp; done)) rfl ?_
      exact ⟨_, _, rfl, HQ2.out, OwnE.mono HQ3.out (by omega), HQ1.out⟩
end Go.Proofs.YtpakjddfnhnndaaGreat
