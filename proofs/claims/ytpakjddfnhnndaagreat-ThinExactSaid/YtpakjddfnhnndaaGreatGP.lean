/-
  package family: Delete.
  package family: Unmap.
  package family: Assign.
  Conditions: as each theorem says.
-/
import Derived.Test.YtpakjddfnhnndaaGreatFaO
namespace Go.Proofs.YtpakjddfnhnndaaGreat
set_option linter.unusedSimpArgs false
set_option linter.unusedVariables false
set_option maxRecDepth 100000
open Go.RowKit Go.Maps

def FamPost3 (w : World) (G : Fam) (L : List E) (e0 : Int) (e : Ending) (w' : World) : Prop := ∃ gv sv, e = .returned (.tuple #[gv, sv, .int .i64 e0]) ∧ FamV w' gv G ∧ OwnE w' w.heap.size sv L ∧ Below w.heap.size w w'
theorem neg_range {hi : Int} {C : List Int} (h : inR 0 hi C) : negB C = false := by
  unfold negB
  rw [List.any_eq_false]
  intro x hx
  have := (h x hx).1
  simp
  omega
theorem freedF_short (F G : Fam) : (freedF F G).length ≤ 65536 := canon_short (runs_facts _).1
/-- What the statement 'c, freed, e := f.counts.Drop(v.extents())' leaves. -/
def DropC (w : World) (a : Option Addr) (n c : Nat) (mb : Option Nat) (R : Nat) (C : List Int) (L : List E) (y f e0 : Value) (W : World) : Prop :=
  ∃ Y a' c' sa sc, y = .pointer (some ⟨Y, 0, none⟩) ∧ f = .slice sa L.length sc ∧ e0 = .int .i64 0 ∧ FH w W a n c mb R ∧ Y ≠ R ∧ W.cell? ⟨Y, 0, none⟩ = some (.slice a' n c') ∧ OwnI W (R + 1) (.slice a' n c') C ∧ OwnE W (R + 1) (.slice sa L.length sc) L
theorem dropC_new {w W w5 : World} {a : Option Addr} {n c : Nat} {mb : Option Nat} {R B : Nat} {C : List Int} {L : List E} {a5 : Option Addr} {c5 : Nat} {sa : Option Addr} {sc : Nat} {t : TypeId} (hH : FH w W a n c mb R) (hB : Below W.drew.heap.size W.drew w5) (ho : OwnI w5 B (.slice a5 n c5) C) (hf : OwnE w5 B (.slice sa L.length sc) L) (hX : R < B) :
    DropC w a n c mb R C L (.pointer (some ⟨w5.heap.size, 0, none⟩)) (.slice sa L.length sc) (.int .i64 0) (w5.alloc (.cells #[.slice a5 n c5] t)) := by
  have hb := ((Below.refl W.heap.size W).drew.on hB).onAlloc (.cells #[.slice a5 n c5] t)
  have hlt : R < w5.heap.size := Nat.lt_of_lt_of_le hH.rf.lt hB.size
  have hk := (Below.refl w5.heap.size w5).onAlloc (.cells #[.slice a5 n c5] t)
  exact ⟨_, a5, c5, sa, sc, rfl, rfl, rfl, hH.later hb, by omega, by simp, (ho.keep hk).mono (by omega), (hf.keep hk).mono (by omega)⟩
theorem dropC_old {w W w5 : World} {a : Option Addr} {n c : Nat} {mb : Option Nat} {R B Y : Nat} {C : List Int} {L : List E} {a5 : Option Addr} {c5 : Nat} {sa : Option Addr} {sc : Nat} {u : Value} (hH : FH w W a n c mb R) (hB : Below W.drew.heap.size W.drew w5) (ho : OwnI w5 B (.slice a5 n c5) C) (hf : OwnE w5 B (.slice sa L.length sc) L) (hX : R < B) (hY : W.drew.heap.size ≤ Y) (hYB : Y < B) (hq : w5.cell? ⟨Y, 0, none⟩ = some u) :
    DropC w a n c mb R C L (.pointer (some ⟨Y, 0, none⟩)) (.slice sa L.length sc) (.int .i64 0) (w5.setCell ⟨Y, 0, none⟩ (.slice a5 n c5)) := by
  have hb := (Below.refl W.heap.size W).drew.on (hB.setCell (p := ⟨Y, 0, none⟩) hY (.slice a5 n c5))
  have hlt := hH.rf.lt
  have hY' : W.heap.size ≤ Y := hY
  exact ⟨_, a5, c5, sa, sc, rfl, rfl, rfl, hH.later hb, by omega, World.cell?_setCell_same _ _ _ hq, (ho.away _ _ fun h => by have := (ho.lt Y h).1; omega).mono (by omega), (OwnE.far hf _ _ fun h => by have := (hf.lt Y h).1; omega).mono (by omega)⟩
set_option maxHeartbeats 16000000 in
theorem delete_is (F : Fam) (fv : Value) (nm : List UInt8) (w : World) (hF : F.ok) (hs : ∀ v ∈ F.vs, v.l.length ≤ 9000) (h : FamV w fv F) (hnm : nm.length ≤ maxLen) :
    Calls Tryz.prog 32 #[fv, nmV nm] w (FamPost3 w (deleteF F nm).1 (deleteF F nm).2.1 (deleteF F nm).2.2) := by
  obtain ⟨a, c, mb, rfl, hr, ts, hts, hT⟩ := h
  have hlen := ts_len hF hts
  have H0 := Lib.hid (FH.init w a F.N c mb)
  have HT := Lib.hid hT
  have HR := Lib.hid hr
  have HTS := Lib.hid hts
  have HF := Lib.hid hF
  have HS := Lib.hid hs
  have hl := look_run (hT.keep H0.out.rf.bel) hnm
  have hgv : getV F.vs nm = (getT ts nm).map VT.vol := by rw [← hts, getT_vol]
  clear hr hT hts hF hs
  cases hg : getT ts nm with
  | none =>
    rw [lookB_none hg] at hl
    rw [show deleteF F nm = (zeroF, [], 9) by simp [deleteF, hgv, hg]]
    have HH := Lib.hid (H0.out.later ((Below.refl _ _).onAlloc (.cells #[.int .i64 0, .int .i64 0, .pointer none] 114)))
    have b0 := HH.out.b0
    have b1 := HH.out.b1
    have r0 := HH.out.rf.r0
    have r1 := HH.out.rf.r1
    have f0 := HH.out.rf.f0
    have f1 := HH.out.rf.f1
    clear hg hgv
    go_enter Tryz.func32, Tryz.ntmps32
    go_wp2_with fail
    obtain ⟨j0, j1⟩ := HH.out.rf.cells (u := .slice none 0 0) (v := .map none)
    (try simp only [Exit.inBlock, Exit.then])
    refine bodyPost_ret (v := .tuple #[.agg #[.slice none 0 0, .map none], .slice none 0 0, .int .i64 9]) (by first | (rw [results_cell_tmp rfl]; go_simp; done) | (rw [results_cell_tmp2 rfl]; go_simp; done) | (rw [results_cell_one rfl]; go_simp; done)) rfl ?_
    exact ⟨_, _, rfl, FamV.zero _, OwnE.nil _ _, by first | exact HH.out.rf.below | ((repeat (first | exact Below.refl _ _ | assumption | refine Below.onNext ?_ _ | refine Below.onAlloc ?_ _ | refine Below.setCell ?_ (by simp) _ | refine Below.drew ?_)); done)⟩
  | some v =>
    rw [lookB_some hg] at hl
    have hvm := (getT_mem hg).1
    have hvn := (getT_mem hg).2
    have hvk := RdV.fit HF.out HTS.out v hvm
    have HVT := Lib.hid (HT.out.1 v hvm)
    have HVK := Lib.hid hvk
    have HVM := Lib.hid hvm
    obtain ⟨b, rfl, hmap⟩ : ∃ b, mb = some b ∧ mapIs w b ts := by
      rcases HT.out.2 with ⟨_, h0⟩ | h0
      · rw [h0] at hvm; simp at hvm
      · exact h0
    have HMAP := Lib.hid hmap
    have hgw : getV F.vs v.vol.nm = some v.vol := by show getV F.vs v.nm = _; rw [hvn, hgv, hg]; rfl
    have hnv : nm = v.vol.nm := hvn.symm
    rw [show deleteF F nm = (⟨F.N, delV F.vs nm⟩, freedF F ⟨F.N, delV F.vs nm⟩, 0) by simp [deleteF, hgv, hg]]
    have HCD := Lib.hid (chg_delete HF.out hgw)
    have HFD := Lib.hid (freed_delete HF.out hgw)
    rw [← hnv] at HCD HFD
    have hH1 := H0.out.later ((Below.refl _ _).onAlloc (.cells #[.int .i64 v.n, .int .i64 v.r, .pointer v.a] 114))
    have hv1 := VH.new ((w.alloc (.cells #[.slice a F.N c, .map (some b)] 28)).alloc (.cells #[.slice none 0 0, .map none] 28)) v.n v.r v.a 114
    rw [show ((w.alloc (.cells #[.slice a F.N c, .map (some b)] 28)).alloc (.cells #[.slice none 0 0, .map none] 28)).heap.size = w.heap.size + 1 + 1 by simp] at hv1
    have HH := Lib.hid hH1
    have HV := Lib.hid hv1
    have HL2 := Lib.hid hl
    clear hvm hvk hH1 hv1 hmap hgw hnv hvn hgv hg
    go_enter Tryz.func32, Tryz.ntmps32
    go_upto_region 4 with fail
    obtain ⟨W, hW⟩ : ∃ W, (((w.alloc (.cells #[.slice a F.N c, .map (some b)] 28)).alloc (.cells #[.slice none 0 0, .map none] 28)).alloc (.cells #[.int .i64 v.n, .int .i64 v.r, .pointer v.a] 114)) = W := ⟨_, rfl⟩
    rw [hW] at HH HV ⊢
    clear hW hl
    have b0 := HH.out.b0
    have b1 := HH.out.b1
    have x0 := HV.out.x0
    have x1 := HV.out.x1
    have x2 := HV.out.x2
    have HVL := Lib.hid (fun w' (hb : Below W.heap.size W w') => extents_is v.n v.r v.a v.t w' (IsTr.keep (HH.out.rf.bel.on hb) v.t HVT.out) (by have := HVK.out.short.1; simp only [VT.vol] at this; omega))
    have HWF := Lib.hid (wfL_of_ok (validB_ok HVK.out.valid))
    have HPM : Hid (permB F.C.length v.t.toL = true) := Lib.hid (by rw [F.C_length]; exact HVK.out.perm)
    have HRG : Hid (inR 0 1000000000 F.C) := Lib.hid (inR_mono HF.out.range (by omega) (by omega))
    have HRI := Lib.hid (HR.out.keep HH.out.rf.bel)
    have HSL : Hid (v.t.toL.length ≤ 9000) := Lib.hid (HS.out v.vol (by rw [← HTS.out]; exact List.mem_map.2 ⟨v, HVM.out, rfl⟩))
    have HGO := Lib.hid (HF.out.del nm)
    have HAD : Hid (∀ w' sa sc, Below W.heap.size W w' → Rd w' sa v.t.toL → Calls Tryz.prog 77 #[.agg #[.slice a F.N c], .slice sa v.t.toL.length sc] w' fun e w'' => ∃ a5 c5 fa fc, e = .returned (.tuple #[.agg #[.slice a5 F.N c5], .slice fa (freedF F ⟨F.N, delV F.vs nm⟩).length fc, .int .i64 0]) ∧ OwnI w'' w'.heap.size (.slice a5 F.N c5) (⟨F.N, delV F.vs nm⟩ : Fam).C ∧ OwnE w'' w'.heap.size (.slice fa (freedF F ⟨F.N, delV F.vs nm⟩).length fc) (freedF F ⟨F.N, delV F.vs nm⟩) ∧ Below w'.heap.size w' w'') := Lib.hid (fun w' sa sc hb hrd => by
      have hcd : chgL F.C v.t.toL (-1) = (⟨F.N, delV F.vs nm⟩ : Fam).C := HCD.out
      have hfd : runsL (freedL (chgL F.C v.t.toL (-1)) v.t.toL) = freedF F ⟨F.N, delV F.vs nm⟩ := HFD.out
      have h5 := drop_yes F.C v.t.toL a sa c sc w' (HRI.out.keep hb) hrd HWF.out HPM.out HRG.out (by have := HSL.out; omega) (by rw [hcd]; exact neg_range HGO.out.range)
      rw [F.C_length] at h5
      refine h5.mono ?_
      rintro e w'' ⟨v5, f5, rfl, ho5, hf5, hb5⟩
      rw [hfd] at hf5
      rw [hcd] at ho5
      obtain ⟨a5, c5, rfl, _⟩ := ho5.rd (by rw [Fam.C_length]; exact HF.out.hN)
      obtain ⟨fa, fc, rfl, _⟩ := hf5.rd (by have := freedF_short F ⟨F.N, delV F.vs nm⟩; omega)
      rw [Fam.C_length] at ho5 ⊢
      exact ⟨a5, c5, fa, fc, rfl, ho5, hf5, hb5⟩)
    have HSK := Lib.hid (fun w' (hB : Below W.drew.heap.size W.drew w') => (⟨hB.keep b0, hB.keep x0, hB.keep x1, hB.keep x2, hB⟩ : w'.cell? ⟨w.heap.size, 0, none⟩ = some (.slice a F.N c) ∧ w'.cell? ⟨w.heap.size + 1 + 1, 0, none⟩ = some (.int .i64 v.n) ∧ w'.cell? ⟨w.heap.size + 1 + 1, 1, none⟩ = some (.int .i64 v.r) ∧ w'.cell? ⟨w.heap.size + 1 + 1, 2, none⟩ = some (.pointer v.a) ∧ Below W.drew.heap.size W.drew w'))
    clear HWF HPM HRG HCD HFD
    go_cut [9, 10, 11] from 9 to 31 (fun y f e0 wx => DropC w a F.N c (some b) (w.heap.size + 1) (⟨F.N, delV F.vs nm⟩ : Fam).C (freedF F ⟨F.N, delV F.vs nm⟩) y f e0 wx)
    case first =>
      go_region_held3 (fun w' => w'.cell? ⟨w.heap.size, 0, none⟩ = some (.slice a F.N c) ∧ w'.cell? ⟨w.heap.size + 1 + 1, 0, none⟩ = some (.int .i64 v.n) ∧ w'.cell? ⟨w.heap.size + 1 + 1, 1, none⟩ = some (.int .i64 v.r) ∧ w'.cell? ⟨w.heap.size + 1 + 1, 2, none⟩ = some (.pointer v.a) ∧ Below W.drew.heap.size W.drew w')
        (first
          | exact HSK.out _ (Below.refl _ _)
          | exact HSK.out _ hB5
          | exact HSK.out _ (hB5.onAlloc _)
          | exact HSK.out _ (hB5.setCell (Nat.le_refl _) _)
          | exact HSK.out _ (hB5.setCell hz4 _)
          | exact HSK.out _ hB4
          | exact HSK.out _ (hB4.onAlloc _)
          | exact HSK.out _ ((Below.refl _ _).onAlloc _))
        (first
          | (go_at_call 69; have hH := ‹_ ∧ _ ∧ _ ∧ _ ∧ Below W.drew.heap.size W.drew _›; refine (HVL.out _ ((Below.refl W.heap.size W).drew.on hH.2.2.2.2)).mono ?_; rintro e w4 ⟨sv, rfl, ho4, hb4⟩; obtain ⟨sa, sc, rfl, hrd4⟩ := ho4.rd (by have := HSL.out; omega); have hB4 := hH.2.2.2.2.on hb4; have hz4 := hB4.size; (try (have hq1 := keepNewD hb4; have q1 := hq1.1; have qf1 := hq1.2; clear hq1)); (try (have hq1 := keepNewS hb4; have q1 := hq1.1; have qf1 := hq1.2; clear hq1)))
          | (go_at_call 77; have hH := ‹_ ∧ _ ∧ _ ∧ _ ∧ Below W.drew.heap.size W.drew _›; refine (HAD.out _ sa sc ((Below.refl W.heap.size W).drew.on hH.2.2.2.2) (by first | exact hrd4 | exact hrd4.keep ((Below.refl _ _).onAlloc _))).mono ?_; rintro e w5 ⟨a5, c5, fa, fc, rfl, ho5, hf5, hb5⟩; have hB5 := hH.2.2.2.2.on hb5; (try have q5 := hb5.keep q1); (try have qf5 := hb5.keepF q1 qf1); (try (have hq1 := keepNewS hb5; have q5 := hq1.1; have qf5 := hq1.2; clear hq1))))
      · have HQ := Lib.hid (dropC_new (t := 25) HH.out hB5 ho5 hf5 (Nat.lt_of_lt_of_le HH.out.rf.lt hz4))
        clear ho5 hf5 hB5 hB4 hb5 hb4 ho4 hrd4 hz4
        go_wp2_with fail
        go_meet
        exact HQ.out
      · have HQ := Lib.hid (dropC_old HH.out hB5 ho5 hf5 (by have := HH.out.rf.lt; have h9 : W.heap.size ≤ w4.heap.size := hz4; simp; omega) hz4 (by simp) q5)
        clear ho5 hf5 hB5 hB4 hb5 hb4 ho4 hrd4 hz4 q5 qf5
        go_wp2_with fail
        go_meet
        exact HQ.out
      · have HQ := Lib.hid (dropC_old HH.out hB5 ho5 hf5 (Nat.lt_of_lt_of_le HH.out.rf.lt hz4) (Nat.le_refl _) (by have := World.block_lt_of_cell? w4 _ q1; exact this) q5)
        clear ho5 hf5 hB5 hB4 hb5 hb4 ho4 hrd4 hz4 q5 qf5 q1 qf1
        go_wp2_with fail
        go_meet
        exact HQ.out
    case rest =>
      obtain ⟨Y, a5, c5, fa, fc, rfl, rfl, rfl, hH, hYR, hcY, ho5, hf5⟩ := hcut
      have hB1 := hH.b1
      have HM := Lib.hid (map_below HMAP.out hH.rf.bel)
      have HHH := Lib.hid hH
      have HCY := Lib.hid hcY
      have HO5 := Lib.hid ho5
      have HF5 := Lib.hid hf5
      clear hH hcY ho5 hf5 b0 b1 x0 x1 x2 HVL HAD HSK HRI
      go_wp2_with fail
      refine (clone_some b ts _ HM.out).mono ?_
      rintro e w6 ⟨rfl, hm6, hb6⟩
      have HM6 := Lib.hid hm6
      have HB6 := Lib.hid hb6
      have hy6 := hb6.keep HCY.out
      clear hm6 hb6
      go_wp2_with (at_delete; refine wpList_delete_own _ rfl _ _ 26 9 rfl 114 strKeyed Tryz.underlying26 heldR wc.heap.size ts.length (dataT ts) rfl HM6.out _ (.string nm) rfl (nmKey hnm) ?_; intro w7 hown7 hturn7; have hb7 : Below wc.heap.size wc w7 := HB6.out.grown hturn7.grown HB6.out.size (fun k hk => by cases hk; exact Nat.le_refl _); have hy7 := hb7.keep HCY.out; have hR7 := HHH.out.rf.later hb7; have r0 := hR7.r0; have r1 := hR7.r1; have f0 := hR7.f0; have f1 := hR7.f1; have HOWN7 := Lib.hid hown7; have HR7 := Lib.hid hR7; have HB7 := Lib.hid hb7; clear hown7 hturn7 hb7 hR7)
      have hm7 := HOWN7.out
      rw [ent_del] at hm7
      have hT7 : RdT w7 (some wc.heap.size) (delT ts nm) := ⟨fun q hq => IsTr.keep HR7.out.bel _ (HT.out.1 q (mem_delT.1 hq).1), .inr ⟨_, rfl, map_exact hm7⟩⟩
      obtain ⟨a6, c6, he6, hri⟩ := HO5.out.rd (by rw [Fam.C_length]; exact HF.out.hN)
      injection he6 with he1 he2 he3
      subst he1
      have hfam : FamV w7 (.agg #[.slice a5 F.N c5, .map (some wc.heap.size)]) ⟨F.N, delV F.vs nm⟩ := FamV.mk' (hri.keep HB7.out) hT7 (by rw [delT_vol, HTS.out])
      have hfr := fam2_own (u := .slice a5 F.N c5) (v := .map (some wc.heap.size)) (OwnE.keep HF5.out HB7.out) (Nat.lt_succ_self _)
      have HQ1 := Lib.hid (HR7.out.below (u := .slice a5 F.N c5) (v := .map (some wc.heap.size)))
      have HQ2 := Lib.hid (HR7.out.fam (u := .slice a5 F.N c5) (v := .map (some wc.heap.size)) hfam)
      have HQ3 := Lib.hid hfr
      clear hfam hfr hri hT7 hm7 he2 he3 hlen
      obtain ⟨j0, j1⟩ := HR7.out.cells (u := .slice a5 F.N c5) (v := .map (some wc.heap.size))
      (try simp only [Exit.inBlock, Exit.then])
      refine bodyPost_ret (v := .tuple #[.agg #[.slice a5 F.N c5, .map (some wc.heap.size)], .slice fa (freedF F ⟨F.N, delV F.vs nm⟩).length fc, .int .i64 0]) (by first | (rw [results_cell_tmp rfl]; go_simp; done) | (rw [results_cell_tmp2 rfl]; go_simp; done) | (rw [results_cell_one rfl]; go_simp; done)) rfl ?_
      exact ⟨_, _, rfl, HQ2.out, OwnE.mono HQ3.out (by omega), HQ1.out⟩
end Go.Proofs.YtpakjddfnhnndaaGreat

namespace Go.Proofs.YtpakjddfnhnndaaGreat
set_option linter.unusedSimpArgs false
set_option linter.unusedVariables false
set_option maxRecDepth 100000
open Go.RowKit Go.Maps

theorem VH.setp {W : World} {X : Nat} {n r : Int} {a : Option Addr} (h : VH W X n r a) (a' : Option Addr) : VH (W.setCell ⟨X, 2, none⟩ (.pointer a')) X n r a' :=
  ⟨(World.cell?_setCell_other _ _ _ _ (by simp)).trans h.x0, (World.cell?_setCell_other _ _ _ _ (by simp)).trans h.x1, World.cell?_setCell_same _ _ _ h.x2, by rw [World.frozen?_setCell]; exact h.f1, by rw [World.frozen?_setCell]; exact h.f2, cell_none (by decide) h.x7⟩
theorem FH.setAway {w W : World} {a : Option Addr} {n c : Nat} {mb : Option Nat} {R X i : Nat} {u : Value} (h : FH w W a n c mb R) (hX : R < X) : FH w (W.setCell ⟨X, i, none⟩ u) a n c mb R := by
  have hle := h.rf.le
  have hne : R ≠ X := by omega
  have hne2 : w.heap.size ≠ X := by omega
  exact ⟨(cell_far hne2).trans h.b0, (cell_far hne2).trans h.b1, (cell_far hne).trans h.rf.r0, (cell_far hne).trans h.rf.r1, by rw [World.frozen?_setCell]; exact h.rf.f0, by rw [World.frozen?_setCell]; exact h.rf.f1, fun i hi => (cell_far hne).trans (h.rf.r2 i hi), h.rf.le, h.rf.bel.setCell (p := ⟨X, i, none⟩) (by simp only; omega) u⟩
set_option maxHeartbeats 16000000 in
theorem unmap_is (F : Fam) (fv : Value) (nm : List UInt8) (p n : Int) (w : World) (hF : F.ok) (hs : ∀ v ∈ F.vs, v.l.length ≤ 9000) (h : FamV w fv F) (hnm : nm.length ≤ maxLen) (hp : -9223372036854775808 ≤ p ∧ p ≤ 9223372036854775807) :
    Calls Tryz.prog 61 #[fv, nmV nm, .int .i64 p, .int .i64 n] w (FamPost3 w (unmapF F nm p n).1 (unmapF F nm p n).2.1 (unmapF F nm p n).2.2) := by
  obtain ⟨a, c, mb, rfl, hr, ts, hts, hT⟩ := h
  have hlen := ts_len hF hts
  have H0 := Lib.hid (FH.init w a F.N c mb)
  have HFI := Lib.hid (ffind_is a F.N c mb ts nm p n _ (hT.keep H0.out.rf.bel) hnm (ts_bounds hF hts) hp)
  have HT := Lib.hid hT
  have HR := Lib.hid hr
  have HTS := Lib.hid hts
  have HF := Lib.hid hF
  have HS := Lib.hid hs
  have hgv : getV F.vs nm = (getT ts nm).map VT.vol := by rw [← hts, getT_vol]
  obtain ⟨v1, e1, hfc, hres⟩ : ∃ (v1 : VT) (e1 : Int), findC ts nm p n = (v1.val, e1) ∧ ((e1 ≠ 0 ∧ unmapF F nm p n = (zeroF, [], e1)) ∨ (e1 = 0 ∧ v1 ∈ ts ∧ v1.nm = nm ∧ inB p n v1.n = true ∧ getV F.vs v1.vol.nm = some v1.vol ∧ unmapF F nm p n = (F.with (v1.vol.set (cutL v1.t.toL p n)), freedF F (F.with (v1.vol.set (cutL v1.t.toL p n))), 0))) := by
    unfold unmapF findC
    rw [hgv]
    cases hg : getT ts nm with
    | none => exact ⟨⟨[], 0, 0, none, .nil⟩, 9, rfl, .inl ⟨by decide, rfl⟩⟩
    | some v =>
      obtain ⟨hm, hvn⟩ := getT_mem hg
      cases hib : inB p n v.n
      · have h1 : inB p n v.vol.n = false := hib
        simp only [Option.map_some, h1, if_true]
        exact ⟨⟨[], 0, 0, none, .nil⟩, 2, by simp [hib], .inl ⟨by decide, rfl⟩⟩
      · have h1 : inB p n v.vol.n = true := hib
        simp only [Option.map_some, h1, Bool.true_eq_false, if_false]
        exact ⟨v, 0, by simp [hib], .inr ⟨rfl, hm, hvn, hib, by show getV F.vs v.nm = _; rw [hvn, hgv, hg]; rfl, rfl⟩⟩
  rw [hfc] at HFI
  clear hr hT hts hF hs hfc hgv
  rcases hres with ⟨h0, hc⟩ | ⟨rfl, hvm, hvn, hib, hgw, hc⟩
  · rw [hc]
    clear hc
    go_enter Tryz.func61, Tryz.ntmps61
    go_wp2_with fail
    refine HFI.out.mono ?_
    rintro e w1 ⟨rfl, hb⟩
    have HH := Lib.hid ((H0.out.later hb).later ((Below.refl _ _).onAlloc (.cells #[.int .i64 v1.n, .int .i64 v1.r, .pointer v1.a] 114)))
    have b0 := HH.out.b0
    have b1 := HH.out.b1
    have r0 := HH.out.rf.r0
    have r1 := HH.out.rf.r1
    have f0 := HH.out.rf.f0
    have f1 := HH.out.rf.f1
    clear hb
    go_wp2_with fail
    obtain ⟨j0, j1⟩ := HH.out.rf.cells (u := .slice none 0 0) (v := .map none)
    (try simp only [Exit.inBlock, Exit.then])
    refine bodyPost_ret (v := .tuple #[.agg #[.slice none 0 0, .map none], .slice none 0 0, .int .i64 e1]) (by first | (rw [results_cell_tmp rfl]; go_simp; done) | (rw [results_cell_tmp2 rfl]; go_simp; done) | (rw [results_cell_one rfl]; go_simp; done)) rfl ?_
    exact ⟨_, _, rfl, FamV.zero _, OwnE.nil _ _, HH.out.rf.below⟩
  · rw [hc]
    have hvk := RdV.fit HF.out HTS.out v1 hvm
    have hib' : inB p n v1.vol.n = true := hib
    obtain ⟨G, hG⟩ : ∃ G, F.with (v1.vol.set (cutL v1.t.toL p n)) = G := ⟨_, rfl⟩
    have hGok := (hvk.cut hib').2
    have hGo : G.ok := by rw [← hG]; exact HF.out.with hGok hgw
    have hGN : G.N = F.N := by rw [← hG]; rfl
    have hGv : G.vs = putV F.vs (v1.vol.set (cutL v1.t.toL p n)) := by rw [← hG]; rfl
    obtain ⟨g1, g2, g3⟩ : permB F.N (inL v1.t.toL p n) = true ∧ chgL F.C (inL v1.t.toL p n) (-1) = G.C ∧ runsL (freedL (chgL F.C (inL v1.t.toL p n) (-1)) (inL v1.t.toL p n)) = freedF F G := by rw [← hG]; exact chg_unmap HF.out hgw hib'
    have hfs := freedF_short F G
    rw [hG]
    obtain ⟨Lf, hLf⟩ : ∃ L, freedF F G = L := ⟨_, rfl⟩
    rw [hLf] at g3 hfs ⊢
    rw [g2] at g3
    have HGO := Lib.hid hGo
    have HGN := Lib.hid hGN
    have HGV := Lib.hid hGv
    have HG1 := Lib.hid g1
    have HG2 := Lib.hid g2
    have HG3 := Lib.hid g3
    clear hG hGo hGN hGv hLf
    have HVT := Lib.hid (HT.out.1 v1 hvm)
    have HVK := Lib.hid hvk
    have HVM := Lib.hid hvm
    have HVN := Lib.hid hvn
    have HW := Lib.hid (inB_within hib' hvk.n2)
    clear hc hvm hvn hib hgw hvk hib' g1 g2 g3 hGok
    go_enter Tryz.func61, Tryz.ntmps61
    go_wp2_with fail
    refine HFI.out.mono ?_
    rintro e w1 ⟨rfl, hb⟩
    have HH := Lib.hid ((H0.out.later hb).later ((Below.refl _ _).onAlloc (.cells #[.int .i64 v1.n, .int .i64 v1.r, .pointer v1.a] 114)))
    have HV := Lib.hid (VH.new w1 v1.n v1.r v1.a 114)
    have HRX : Hid (w.heap.size + 1 < w1.heap.size) := Lib.hid (H0.out.later hb).rf.lt
    clear hb
    go_wp2_with fail
    refine (cut_tree' v1.t p n (.pointer v1.a) _ (IsTr.keep HH.out.rf.bel v1.t HVT.out) HVK.out.valid HVK.out.norm HW.out).mono ?_
    rintro e w2 ⟨tv, t2, sv, rfl, ht2, hl2, ho2, hb2⟩
    obtain ⟨a2, rfl⟩ := ht2.form
    have hil := (inL_facts v1.t.toL p n (validB_ok HVK.out.valid)).1
    have hsl : v1.t.toL.length ≤ 9000 := HS.out v1.vol (by rw [← HTS.out]; exact List.mem_map.2 ⟨v1, HVM.out, rfl⟩)
    obtain ⟨sa, sc, rfl, _⟩ := ho2.rd (by omega)
    have hX0 := HV.out.lt
    have HH2 := HH.out.later hb2
    have HV2 := HV.out.later hb2
    have x0 := HV2.x0
    have x1 := HV2.x1
    have x2 := HV2.x2
    have fx2 := HV2.f2
    have hk3 := (Below.refl w2.heap.size w2).onAlloc (.cells #[.pointer a2] 112)
    have HHS := Lib.hid ((HH2.later hk3).setAway (X := w1.heap.size) (i := 2) (u := .pointer a2) HRX.out)
    have HVS := Lib.hid ((HV2.later hk3).setp a2)
    have HTS2 := Lib.hid (IsTr.away (i := 2) (u := .pointer a2) (HV2.later hk3).x7 t2 (IsTr.keep hk3 t2 ht2))
    have hoS := OwnE.far (OwnE.keep ho2 hk3) ⟨w1.heap.size, 2, none⟩ (.pointer a2) (fun h => by have h9 := (ho2.lt w1.heap.size h).1; omega)
    obtain ⟨sa', sc', hse, hrd3⟩ := hoS.rd (by omega)
    injection hse with hs1 hs2 hs3
    subst hs1
    have HDR : Hid (Calls Tryz.prog 77 #[.agg #[.slice a F.N c], .slice sa (inL v1.t.toL p n).length sc] ((w2.alloc (.cells #[.pointer a2] 112)).setCell ⟨w1.heap.size, 2, none⟩ (.pointer a2)) fun e w'' => ∃ a5 c5 fa fc, e = .returned (.tuple #[.agg #[.slice a5 F.N c5], .slice fa Lf.length fc, .int .i64 0]) ∧ RdI w'' a5 G.C ∧ OwnE w'' ((w2.alloc (.cells #[.pointer a2] 112)).setCell ⟨w1.heap.size, 2, none⟩ (.pointer a2)).heap.size (.slice fa Lf.length fc) Lf ∧ Below ((w2.alloc (.cells #[.pointer a2] 112)).setCell ⟨w1.heap.size, 2, none⟩ (.pointer a2)).heap.size ((w2.alloc (.cells #[.pointer a2] 112)).setCell ⟨w1.heap.size, 2, none⟩ (.pointer a2)) w'') := Lib.hid (by
      have h5 := drop_yes F.C (inL v1.t.toL p n) a sa c sc _ (HR.out.keep HHS.out.rf.bel) hrd3 (wfL_of_ok (validB_ok (inL_valid _ p n HVK.out.valid))) (by rw [F.C_length]; exact HG1.out) (inR_mono HF.out.range (by omega) (by omega)) (by omega) (by rw [HG2.out]; exact neg_range HGO.out.range)
      rw [F.C_length] at h5
      refine h5.mono ?_
      rintro e w'' ⟨v5, f5, rfl, ho5, hf5, hb5⟩
      rw [HG2.out] at ho5 hf5
      rw [HG3.out] at hf5
      obtain ⟨a5, c5, rfl, hr5⟩ := ho5.rd (by rw [Fam.C_length]; exact HGO.out.hN)
      obtain ⟨fa, fc, rfl, _⟩ := hf5.rd (by omega)
      rw [Fam.C_length, HGN.out]
      exact ⟨a5, c5, fa, fc, rfl, hr5, hf5, hb5⟩)
    have HL2 := Lib.hid hl2
    have b0 := HHS.out.b0
    have b1 := HHS.out.b1
    have HSZ0 : Hid (w.heap.size + 1 < ((w2.alloc (.cells #[.pointer a2] 112)).setCell ⟨w1.heap.size, 2, none⟩ (.pointer a2)).heap.size) := Lib.hid HHS.out.rf.lt
    clear ho2 hoS hb2 ht2 hl2 hrd3 hs2 hs3 hil hsl hk3 HH2 HV2 hX0 hfs
    go_wp2_with fail
    refine HDR.out.mono ?_
    rintro e w4 ⟨a5, c5, fa, fc, rfl, hr5, hf5, hb4⟩
    have hk4 := (Below.refl w4.heap.size w4).onAlloc (.cells #[.slice a5 F.N c5] 25)
    have HH4 := HHS.out.later hb4
    have HV4 := HVS.out.later hb4
    have b0 := HH4.b0
    have b1 := HH4.b1
    have x0 := HV4.x0
    have x1 := HV4.x1
    have x2 := HV4.x2
    have HHE := Lib.hid (HH4.later hk4)
    have HTE := Lib.hid (IsTr.keep hk4 t2 (IsTr.keep hb4 t2 HTS2.out))
    have HOE := Lib.hid (hr5.keep hk4)
    have HFE := Lib.hid (OwnE.mono (OwnE.keep hf5 hk4) HSZ0.out)
    clear hr5 hf5 hb4 hk4 HH4 HV4 HDR HHS HVS HTS2
    go_wp2_with fail
    refine (with_is a F.N c a5 F.N c5 mb ts ⟨nm, v1.n, v1.r, a2, t2⟩ _ (HT.out.keep HHE.out.rf.bel) HTE.out hnm (by omega)).mono ?_
    rintro e w5 ⟨b, rfl, hT5, hb5⟩
    have hR5 := HHE.out.rf.later hb5
    have r0 := hR5.r0
    have r1' := hR5.r1
    have f0' := hR5.f0
    have f1' := hR5.f1
    have hvol : (⟨nm, v1.n, v1.r, a2, t2⟩ : VT).vol = v1.vol.set (cutL v1.t.toL p n) := by
      show (⟨nm, v1.n, v1.r, t2.toL⟩ : Vol) = ⟨v1.nm, v1.n, v1.r, cutL v1.t.toL p n⟩
      rw [HVN.out, HL2.out]
    have hfam : FamV w5 (.agg #[.slice a5 F.N c5, .map (some b)]) G := by
      rw [← HGN.out]
      exact FamV.mk' (HOE.out.keep hb5) hT5 (by rw [put_vol, HTS.out, hvol, HGV.out])
    have HQ1 := Lib.hid (hR5.below (u := .slice a5 F.N c5) (v := .map (some b)))
    have HQ2 := Lib.hid (hR5.fam (u := .slice a5 F.N c5) (v := .map (some b)) hfam)
    have HQ3 := Lib.hid (fam2_own (R := w.heap.size + 1) (u := .slice a5 F.N c5) (v := .map (some b)) (OwnE.keep HFE.out hb5) (Nat.lt_succ_self _))
    have HR5 := Lib.hid hR5
    clear hb5 hT5 hvol hfam hR5
    go_wp2_with fail
    obtain ⟨j0, j1⟩ := HR5.out.cells (u := .slice a5 F.N c5) (v := .map (some b))
    (try simp only [Exit.inBlock, Exit.then])
    refine bodyPost_ret (v := .tuple #[.agg #[.slice a5 F.N c5, .map (some b)], .slice fa Lf.length fc, .int .i64 0]) (by first | (rw [results_cell_tmp rfl]; go_simp; done) | (rw [results_cell_tmp2 rfl]; go_simp; done) | (rw [results_cell_one rfl]; go_simp; done)) rfl ?_
    exact ⟨_, _, rfl, HQ2.out, OwnE.mono HQ3.out (by omega), HQ1.out⟩
end Go.Proofs.YtpakjddfnhnndaaGreat

namespace Go.Proofs.YtpakjddfnhnndaaGreat
set_option linter.unusedSimpArgs false
set_option linter.unusedVariables false
set_option maxRecDepth 100000
open Go.RowKit Go.Maps

theorem RdI.setOther {w : World} {a : Option Addr} {C : List Int} (h : RdI w a C) {p : Addr} {u y : Value} (hp : w.cell? p = some y) (hy : ∀ i, y ≠ .int .i64 i) : RdI (w.setCell p u) a C := by
  refine ⟨h.1, h.2.imp id fun ⟨b, o, ha, ht, hc⟩ => ⟨b, o, ha, ht.set _ _, fun k x hk => ?_⟩⟩
  have h1 := hc k x hk
  have hne : p ≠ ⟨b, o + k, none⟩ := fun e => by
    subst e
    rw [hp] at h1
    exact hy x (Option.some.inj h1)
  rw [World.cell?_setCell_other _ _ _ _ hne, h1]
theorem IsTr.setOther {w : World} {p : Addr} {u y : Value} (hp : w.cell? p = some y) (hy : ∀ i, y ≠ .int .i64 i) (hq : ∀ a, y ≠ .pointer a) (t : Tr) : ∀ {v : Value}, IsTr w v t → IsTr (w.setCell p u) v t := by
  induction t with
  | nil => exact fun hv => hv
  | node l x r ihl ihr =>
    rintro v ⟨b, vl, vr, hv, hn, hl, hr⟩
    obtain ⟨al, rfl⟩ := hl.form
    obtain ⟨ar, rfl⟩ := hr.form
    have k : ∀ j z, w.cell? ⟨b, j, none⟩ = some z → z ≠ y → (w.setCell p u).cell? ⟨b, j, none⟩ = some z := fun j z h1 h2 => by
      have hne : p ≠ ⟨b, j, none⟩ := fun e => by
        subst e
        rw [hp] at h1
        exact h2 (Option.some.inj h1).symm
      rw [World.cell?_setCell_other _ _ _ _ hne, h1]
    exact ⟨b, _, _, hv, ⟨k _ _ hn.a (hy _).symm, k _ _ hn.n (hy _).symm, k _ _ hn.s (hy _).symm, k _ _ hn.l (hq _).symm, k _ _ hn.r (hq _).symm, k _ _ hn.d (hy _).symm, k _ _ hn.c (hy _).symm, k _ _ hn.m (hy _).symm⟩, ihl hl, ihr hr⟩
theorem VH.setAway {W : World} {X Y i : Nat} {n r : Int} {a : Option Addr} {u : Value} (h : VH W X n r a) (hne : X ≠ Y) : VH (W.setCell ⟨Y, i, none⟩ u) X n r a :=
  ⟨(cell_far hne).trans h.x0, (cell_far hne).trans h.x1, (cell_far hne).trans h.x2, by rw [World.frozen?_setCell]; exact h.f1, by rw [World.frozen?_setCell]; exact h.f2, (cell_far hne).trans h.x7⟩
/-- An extent in a local variable. -/
structure EH (W : World) (X : Nat) (x : E) : Prop where
  e0 : W.cell? ⟨X, 0, none⟩ = some (.int .i64 x.a)
  e1 : W.cell? ⟨X, 1, none⟩ = some (.int .i64 x.n)
  e2 : W.cell? ⟨X, 2, none⟩ = some (.int .i64 x.s)
theorem EH.later {W W' : World} {X : Nat} {x : E} (h : EH W X x) (hb : Below W.heap.size W W') : EH W' X x := ⟨hb.keep h.e0, hb.keep h.e1, hb.keep h.e2⟩
theorem EH.init (w : World) (u v : Value) (x : E) (t : TypeId) : EH (((w.alloc (.cells #[u, v] t)).alloc (.cells #[.int .i64 x.a, .int .i64 x.n, .int .i64 x.s] 65)).alloc (.cells #[.slice none 0 0, .map none] t)) (w.heap.size + 1) x := by
  have k : ∀ i, (((w.alloc (.cells #[u, v] t)).alloc (.cells #[.int .i64 x.a, .int .i64 x.n, .int .i64 x.s] 65)).alloc (.cells #[.slice none 0 0, .map none] t)).cell? ⟨w.heap.size + 1, i, none⟩ = ((w.alloc (.cells #[u, v] t)).alloc (.cells #[.int .i64 x.a, .int .i64 x.n, .int .i64 x.s] 65)).cell? ⟨w.heap.size + 1, i, none⟩ := fun i => by
    rw [World.cell?_alloc_lt _ _ _ (by simp)]
  exact ⟨(k 0).trans (by simp), (k 1).trans (by simp), (k 2).trans (by simp)⟩
theorem perm_one (N : Nat) (x : E) : permB N [x] = slotB N x := by simp [permB, slotB]
/-- A value in a local variable of one cell. -/
structure CH (W : World) (Y : Nat) (v : Value) : Prop where
  c0 : W.cell? ⟨Y, 0, none⟩ = some v
  f0 : W.frozen? ⟨Y, 0, none⟩ = false
theorem CH.lt {W : World} {Y : Nat} {v : Value} (h : CH W Y v) : Y < W.heap.size := World.block_lt_of_cell? W ⟨Y, 0, none⟩ h.c0
theorem CH.later {W W' : World} {Y : Nat} {v : Value} (h : CH W Y v) (hb : Below W.heap.size W W') : CH W' Y v := ⟨hb.keep h.c0, hb.keepF h.c0 h.f0⟩
theorem CH.new (W : World) (v : Value) (t : TypeId) : CH (W.alloc (.cells #[v] t)) W.heap.size v := ⟨by simp, by simp⟩
theorem CH.setAway {W : World} {X Y i : Nat} {v u : Value} (h : CH W X v) (hne : X ≠ Y) : CH (W.setCell ⟨Y, i, none⟩ u) X v := ⟨(cell_far hne).trans h.c0, by rw [World.frozen?_setCell]; exact h.f0⟩
theorem one_range {C : List Int} {x : E} (hp : permB C.length [x] = true) (h : inR 0 2097152 C) : inR 0 1000000000 (chgL C [x] 1) := inR_mono (chg_up hp h) (by omega) (by simp)
set_option maxHeartbeats 16000000 in
theorem assign_is (F : Fam) (fv : Value) (nm : List UInt8) (x : E) (w : World) (hF : F.ok) (hs : ∀ v ∈ F.vs, v.l.length ≤ 9000) (h : FamV w fv F) (hnm : nm.length ≤ maxLen) (hx : x.wf) :
    Calls Tryz.prog 60 #[fv, nmV nm, .agg #[.int .i64 x.a, .int .i64 x.n, .int .i64 x.s]] w (FamPost3 w (assignF F nm x).1 (assignF F nm x).2.1 (assignF F nm x).2.2) := by
  obtain ⟨a, c, mb, rfl, hr, ts, hts, hT⟩ := h
  have hlen := ts_len hF hts
  have H0 := Lib.hid (FH.initE w a F.N c mb x)
  have HE0 := Lib.hid (EH.init w (.slice a F.N c) (.map mb) x 28)
  have HFI := Lib.hid (ffind_is a F.N c mb ts nm x.a x.n _ (hT.keep H0.out.rf.bel) hnm (ts_bounds hF hts) hx.1)
  have HT := Lib.hid hT
  have HR := Lib.hid hr
  have HTS := Lib.hid hts
  have HF := Lib.hid hF
  have HS := Lib.hid hs
  have hw1 : wfL [x] := fun y hy => by simp at hy; rw [hy]; exact hx
  have HWX := Lib.hid hw1
  have hgv : getV F.vs nm = (getT ts nm).map VT.vol := by rw [← hts, getT_vol]
  obtain ⟨v1, e1, hfc, hres⟩ : ∃ (v1 : VT) (e1 : Int), findC ts nm x.a x.n = (v1.val, e1) ∧ ((e1 ≠ 0 ∧ assignF F nm x = (zeroF, [], e1)) ∨ (e1 = 0 ∧ v1 ∈ ts ∧ v1.nm = nm ∧ inB x.a x.n v1.n = true ∧ getV F.vs v1.vol.nm = some v1.vol ∧ assignF F nm x = if slotB F.N x = false then (zeroF, [], 2) else (F.with (v1.vol.set (putL v1.t.toL x)), freedF F (F.with (v1.vol.set (putL v1.t.toL x))), 0))) := by
    unfold assignF findC
    rw [hgv]
    cases hg : getT ts nm with
    | none => exact ⟨⟨[], 0, 0, none, .nil⟩, 9, rfl, .inl ⟨by decide, rfl⟩⟩
    | some v =>
      obtain ⟨hm, hvn⟩ := getT_mem hg
      cases hib : inB x.a x.n v.n
      · have h1 : inB x.a x.n v.vol.n = false := hib
        simp only [Option.map_some, h1, Bool.false_and, if_true]
        exact ⟨⟨[], 0, 0, none, .nil⟩, 2, by simp [hib], .inl ⟨by decide, rfl⟩⟩
      · have h1 : inB x.a x.n v.vol.n = true := hib
        simp only [Option.map_some, h1, Bool.true_and]
        exact ⟨v, 0, by simp [hib], .inr ⟨rfl, hm, hvn, hib, by show getV F.vs v.nm = _; rw [hvn, hgv, hg]; rfl, rfl⟩⟩
  rw [hfc] at HFI
  clear hr hT hts hF hs hfc hgv hw1
  have d0 := HE0.out.e0
  have d1 := HE0.out.e1
  have d2 := HE0.out.e2
  rcases hres with ⟨h0, hc⟩ | ⟨rfl, hvm, hvn, hib, hgw, hc⟩
  · rw [hc]
    clear hc
    go_enter Tryz.func60, Tryz.ntmps60
    go_wp2_with fail
    refine HFI.out.mono ?_
    rintro e w1 ⟨rfl, hb⟩
    have HH := Lib.hid ((H0.out.later hb).later ((Below.refl _ _).onAlloc (.cells #[.int .i64 v1.n, .int .i64 v1.r, .pointer v1.a] 114)))
    have b0 := HH.out.b0
    have b1 := HH.out.b1
    have r0 := HH.out.rf.r0
    have r1 := HH.out.rf.r1
    have f0 := HH.out.rf.f0
    have f1 := HH.out.rf.f1
    clear hb
    go_wp2_with fail
    obtain ⟨j0, j1⟩ := HH.out.rf.cells (u := .slice none 0 0) (v := .map none)
    (try simp only [Exit.inBlock, Exit.then])
    refine bodyPost_ret (v := .tuple #[.agg #[.slice none 0 0, .map none], .slice none 0 0, .int .i64 e1]) (by first | (rw [results_cell_tmp rfl]; go_simp; done) | (rw [results_cell_tmp2 rfl]; go_simp; done) | (rw [results_cell_one rfl]; go_simp; done)) rfl ?_
    exact ⟨_, _, rfl, FamV.zero _, OwnE.nil _ _, HH.out.rf.below⟩
  · cases hsl : slotB F.N x
    · rw [hc, hsl, if_pos rfl]
      have hpm : permB F.C.length [x] = false := by rw [F.C_length, perm_one]; exact hsl
      have hAD := fun w' (hr : Rd w' (some ⟨w'.heap.size, 0, none⟩) [x]) => hr
      have HPM := Lib.hid hpm
      have hCN : F.C.length ≤ 65536 := by rw [F.C_length]; exact HF.out.hN
      have HCN := Lib.hid hCN
      clear hc hvm hvn hib hgw hpm hsl hAD hCN
      go_enter Tryz.func60, Tryz.ntmps60
      go_wp2_with fail
      refine HFI.out.mono ?_
      rintro e w1 ⟨rfl, hb⟩
      have hbv := hb.onAlloc (.cells #[.int .i64 v1.n, .int .i64 v1.r, .pointer v1.a] 114)
      have HH := Lib.hid (H0.out.later hbv)
      have hE := HE0.out.later hbv
      have d0 := hE.e0
      have d1 := hE.e1
      have d2 := hE.e2
      have b0 := HH.out.b0
      have b1 := HH.out.b1
      have r0 := HH.out.rf.r0
      have r1 := HH.out.rf.r1
      have f0 := HH.out.rf.f0
      have f1 := HH.out.rf.f1
      clear hb hbv hE
      go_wp2_with fail
      have HAN := Lib.hid (add_no F.C [x] a (some ⟨(w1.alloc (.cells #[.int .i64 v1.n, .int .i64 v1.r, .pointer v1.a] 114)).heap.size, 0, none⟩) c 1 ((w1.alloc (.cells #[.int .i64 v1.n, .int .i64 v1.r, .pointer v1.a] 114)).alloc (.cells #[.int .i64 x.a, .int .i64 x.n, .int .i64 x.s] 65)) HCN.out (Rd.lit _ _ [x] _ rfl rfl (by simp)) HWX.out HPM.out)
      rw [F.C_length, show (w1.alloc (.cells #[.int .i64 v1.n, .int .i64 v1.r, .pointer v1.a] 114)).heap.size = w1.heap.size + 1 by simp] at HAN
      refine HAN.out.mono ?_
      rintro e w2 ⟨rfl, hb2⟩
      have hk2 := ((Below.refl (w1.alloc (.cells #[.int .i64 v1.n, .int .i64 v1.r, .pointer v1.a] 114)).heap.size (w1.alloc (.cells #[.int .i64 v1.n, .int .i64 v1.r, .pointer v1.a] 114))).onAlloc (.cells #[.int .i64 x.a, .int .i64 x.n, .int .i64 x.s] 65)).on hb2
      replace HH := Lib.hid ((HH.out.later hk2).later ((Below.refl w2.heap.size w2).onAlloc (.cells #[.slice none 0 0] 25)))
      have b0 := HH.out.b0
      have b1 := HH.out.b1
      have r0 := HH.out.rf.r0
      have r1 := HH.out.rf.r1
      have f0 := HH.out.rf.f0
      have f1 := HH.out.rf.f1
      clear hb2 hk2 HAN
      go_wp2_with fail
      obtain ⟨j0, j1⟩ := HH.out.rf.cells (u := .slice none 0 0) (v := .map none)
      (try simp only [Exit.inBlock, Exit.then])
      refine bodyPost_ret (v := .tuple #[.agg #[.slice none 0 0, .map none], .slice none 0 0, .int .i64 2]) (by first | (rw [results_cell_tmp rfl]; go_simp; done) | (rw [results_cell_tmp2 rfl]; go_simp; done) | (rw [results_cell_one rfl]; go_simp; done)) rfl ?_
      exact ⟨_, _, rfl, FamV.zero _, OwnE.nil _ _, HH.out.rf.below⟩
    · have hxs : (inB x.a x.n v1.vol.n && slotB F.N x) = true := by rw [hsl]; show (inB x.a x.n v1.n && true) = true; rw [hib]; rfl
      rw [hc, hsl, if_neg (by decide)]
      have hvk := RdV.fit HF.out HTS.out v1 hvm
      obtain ⟨G, hG⟩ : ∃ G, F.with (v1.vol.set (putL v1.t.toL x)) = G := ⟨_, rfl⟩
      obtain ⟨hxok, hGok⟩ := hvk.put HF.out.hN hxs
      have hGo : G.ok := by rw [← hG]; exact HF.out.with hGok hgw
      have hGN : G.N = F.N := by rw [← hG]; rfl
      have hGv : G.vs = putV F.vs (v1.vol.set (putL v1.t.toL x)) := by rw [← hG]; rfl
      obtain ⟨g0, g1, g2, g3⟩ : permB F.N [x] = true ∧ permB F.N (inL v1.t.toL x.a x.n) = true ∧ chgL (chgL F.C [x] 1) (inL v1.t.toL x.a x.n) (-1) = G.C ∧ runsL (freedL (chgL (chgL F.C [x] 1) (inL v1.t.toL x.a x.n) (-1)) (inL v1.t.toL x.a x.n)) = freedF F G := by rw [← hG]; exact chg_assign HF.out hgw hxs
      have hfs := freedF_short F G
      rw [hG]
      obtain ⟨Lf, hLf⟩ : ∃ L, freedF F G = L := ⟨_, rfl⟩
      rw [hLf] at g3 hfs ⊢
      rw [g2] at g3
      obtain ⟨C1, hC1⟩ : ∃ C, chgL F.C [x] 1 = C := ⟨_, rfl⟩
      have hC1l : C1.length = F.N := by rw [← hC1, chgL_length, F.C_length]
      have hC1r : inR 0 1000000000 C1 := by
        rw [← hC1]
        exact one_range (by rw [F.C_length]; exact g0) HF.out.range
      rw [hC1] at g2
      have HGO := Lib.hid hGo
      have HGN := Lib.hid hGN
      have HGV := Lib.hid hGv
      have HG0 := Lib.hid g0
      have HG1 := Lib.hid g1
      have HG2 := Lib.hid g2
      have HG3 := Lib.hid g3
      have HC1 := Lib.hid hC1
      have HCL := Lib.hid hC1l
      have HCR := Lib.hid hC1r
      have HFS := Lib.hid hfs
      have HXO := Lib.hid hxok
      have HVT := Lib.hid (HT.out.1 v1 hvm)
      have HVK := Lib.hid hvk
      have HVM := Lib.hid hvm
      have HVN := Lib.hid hvn
      clear hG hGo hGN hGv hLf hc hvm hvn hib hgw hvk g0 g1 g2 g3 hGok hsl hxs hC1 hC1l hC1r hfs hxok
      go_enter Tryz.func60, Tryz.ntmps60
      go_wp2_with fail
      refine HFI.out.mono ?_
      rintro e w1 ⟨rfl, hb⟩
      have hbv := hb.onAlloc (.cells #[.int .i64 v1.n, .int .i64 v1.r, .pointer v1.a] 114)
      have HH := Lib.hid (H0.out.later hbv)
      have HV := Lib.hid (VH.new w1 v1.n v1.r v1.a 114)
      have HRX : Hid (w.heap.size + 1 + 1 < w1.heap.size) := Lib.hid (H0.out.later hb).rf.lt
      have hE := HE0.out.later hbv
      have HE := Lib.hid hE
      have d0 := hE.e0
      have d1 := hE.e1
      have d2 := hE.e2
      have b0 := HH.out.b0
      have b1 := HH.out.b1
      have r0 := HH.out.rf.r0
      have r1 := HH.out.rf.r1
      have f0 := HH.out.rf.f0
      have f1 := HH.out.rf.f1
      clear hb hbv hE
      go_wp2_with fail
      have hk1 := (Below.refl (w1.alloc (.cells #[.int .i64 v1.n, .int .i64 v1.r, .pointer v1.a] 114)).heap.size (w1.alloc (.cells #[.int .i64 v1.n, .int .i64 v1.r, .pointer v1.a] 114))).onAlloc (.cells #[.int .i64 x.a, .int .i64 x.n, .int .i64 x.s] 65)
      have HAY := Lib.hid (add_yes F.C [x] a (some ⟨(w1.alloc (.cells #[.int .i64 v1.n, .int .i64 v1.r, .pointer v1.a] 114)).heap.size, 0, none⟩) c 1 ((w1.alloc (.cells #[.int .i64 v1.n, .int .i64 v1.r, .pointer v1.a] 114)).alloc (.cells #[.int .i64 x.a, .int .i64 x.n, .int .i64 x.s] 65)) (HR.out.keep (HH.out.later hk1).rf.bel) (Rd.lit _ _ [x] _ rfl rfl (by simp)) HWX.out (by rw [F.C_length]; exact HG0.out) (inR_mono HF.out.range (by omega) (by omega)) (by simp))
      rw [F.C_length, HC1.out, show (w1.alloc (.cells #[.int .i64 v1.n, .int .i64 v1.r, .pointer v1.a] 114)).heap.size = w1.heap.size + 1 by simp] at HAY
      refine HAY.out.mono ?_
      rintro e w2 ⟨v5, rfl, hoC, hb2⟩
      obtain ⟨a4, c4, rfl, hrC⟩ := hoC.rd (by rw [HCL.out]; exact HF.out.hN)
      rw [HCL.out]
      have hk2 := ((hk1).on hb2).onAlloc (.cells #[.slice a4 F.N c4] 25)
      have hk2' := (Below.refl w2.heap.size w2).onAlloc (.cells #[.slice a4 F.N c4] 25)
      have HRC := Lib.hid (hrC.keep hk2')
      replace HH := Lib.hid (HH.out.later hk2)
      replace HV := Lib.hid (HV.out.later hk2)
      replace HE := Lib.hid (HE.out.later hk2)
      have HY := Lib.hid (CH.new w2 (.slice a4 F.N c4) 25)
      have HYX : Hid (w1.heap.size < w2.heap.size) := Lib.hid (Nat.lt_of_lt_of_le (by simp) (hk1.on hb2).size)
      have d0 := HE.out.e0
      have d1 := HE.out.e1
      have d2 := HE.out.e2
      have x2 := HV.out.x2
      have b0 := HH.out.b0
      have b1 := HH.out.b1
      have r0 := HH.out.rf.r0
      have r1 := HH.out.rf.r1
      have f0 := HH.out.rf.f0
      have f1 := HH.out.rf.f1
      clear hb2 hk2 HAY hk1 hk2' hrC hoC
      go_wp2_with fail
      refine (put_tree' v1.t x (.pointer v1.a) _ (IsTr.keep HH.out.rf.bel v1.t HVT.out) HVK.out.valid HVK.out.norm HXO.out).mono ?_
      rintro e w3 ⟨tv, t2, sv, rfl, ht2, hl2, ho2, hb3⟩
      obtain ⟨a2, rfl⟩ := ht2.form
      have hil := (inL_facts v1.t.toL x.a x.n (validB_ok HVK.out.valid)).1
      have hsl : v1.t.toL.length ≤ 9000 := HS.out v1.vol (by rw [← HTS.out]; exact List.mem_map.2 ⟨v1, HVM.out, rfl⟩)
      obtain ⟨sa, sc, rfl, _⟩ := ho2.rd (by omega)
      have hk3 := (Below.refl w3.heap.size w3).onAlloc (.cells #[.pointer a2] 112)
      have HH3 := HH.out.later hb3
      have HV3 := HV.out.later hb3
      have HY3 := HY.out.later hb3
      have x0 := HV3.x0
      have x1 := HV3.x1
      have x2 := HV3.x2
      have fx2 := HV3.f2
      have y0 := HY3.c0
      have yf := HY3.f0
      have hX0 := HV3.lt
      have hY0 := HY3.lt
      have HHS := Lib.hid ((HH3.later hk3).setAway (X := w1.heap.size) (i := 2) (u := .pointer a2) (by have := HRX.out; omega))
      have HVS := Lib.hid ((HV3.later hk3).setp a2)
      have HYS := Lib.hid ((HY3.later hk3).setAway (Y := w1.heap.size) (i := 2) (u := .pointer a2) (by have := HYX.out; omega))
      have HTS2 := Lib.hid (IsTr.away (i := 2) (u := .pointer a2) (HV3.later hk3).x7 t2 (IsTr.keep hk3 t2 ht2))
      have hoS := OwnE.far (OwnE.keep ho2 hk3) ⟨w1.heap.size, 2, none⟩ (.pointer a2) (fun h => by have h9 := (ho2.lt w1.heap.size h).1; have h8 := HYX.out; simp only [World.size_alloc] at h9; omega)
      obtain ⟨sa', sc', hse, hrd3⟩ := hoS.rd (by omega)
      injection hse with hs1 hs2 hs3
      subst hs1
      have HDR : Hid (Calls Tryz.prog 77 #[.agg #[.slice a4 F.N c4], .slice sa (inL v1.t.toL x.a x.n).length sc] ((w3.alloc (.cells #[.pointer a2] 112)).setCell ⟨w1.heap.size, 2, none⟩ (.pointer a2)) fun e w'' => ∃ a5 c5 fa fc, e = .returned (.tuple #[.agg #[.slice a5 F.N c5], .slice fa Lf.length fc, .int .i64 0]) ∧ RdI w'' a5 G.C ∧ OwnE w'' ((w3.alloc (.cells #[.pointer a2] 112)).setCell ⟨w1.heap.size, 2, none⟩ (.pointer a2)).heap.size (.slice fa Lf.length fc) Lf ∧ Below ((w3.alloc (.cells #[.pointer a2] 112)).setCell ⟨w1.heap.size, 2, none⟩ (.pointer a2)).heap.size ((w3.alloc (.cells #[.pointer a2] 112)).setCell ⟨w1.heap.size, 2, none⟩ (.pointer a2)) w'') := Lib.hid (by
        have h5 := drop_yes C1 (inL v1.t.toL x.a x.n) a4 sa c4 sc _ (((HRC.out.keep hb3).keep hk3).setOther (u := .pointer a2) (HV3.later hk3).x2 (by simp)) hrd3 (wfL_of_ok (validB_ok (inL_valid _ x.a x.n HVK.out.valid))) (by rw [HCL.out]; exact HG1.out) HCR.out (by omega) (by rw [HG2.out]; exact neg_range HGO.out.range)
        rw [HCL.out] at h5
        refine h5.mono ?_
        rintro e w'' ⟨v5, f5, rfl, ho5, hf5, hb5⟩
        rw [HG2.out] at ho5 hf5
        rw [HG3.out] at hf5
        obtain ⟨a5, c5, rfl, hr5⟩ := ho5.rd (by rw [Fam.C_length]; exact HGO.out.hN)
        have hff := HFS.out
        obtain ⟨fa, fc, rfl, _⟩ := hf5.rd (by omega)
        rw [Fam.C_length, HGN.out]
        exact ⟨a5, c5, fa, fc, rfl, hr5, hf5, hb5⟩)
      have HL2 := Lib.hid hl2
      have b0 := HHS.out.b0
      have b1 := HHS.out.b1
      have y0' := HYS.out.c0
      have HSZ0 : Hid (w.heap.size + 1 + 1 < ((w3.alloc (.cells #[.pointer a2] 112)).setCell ⟨w1.heap.size, 2, none⟩ (.pointer a2)).heap.size) := Lib.hid HHS.out.rf.lt
      clear ho2 hoS hb3 ht2 hl2 hrd3 hs2 hs3 hil hsl hk3 HH3 HV3 HY3 hX0 hY0
      go_wp2_with fail
      refine HDR.out.mono ?_
      rintro e w4 ⟨a5, c5, fa, fc, rfl, hr5, hf5, hb4⟩
      have HH4 := HHS.out.later hb4
      have HV4 := HVS.out.later hb4
      have HY4 := HYS.out.later hb4
      have b0 := HH4.b0
      have b1 := HH4.b1
      have x0 := HV4.x0
      have x1 := HV4.x1
      have x2 := HV4.x2
      have y0 := HY4.c0
      have yf := HY4.f0
      have HHE := Lib.hid (HH4.setAway (X := w2.heap.size) (i := 0) (u := .slice a5 F.N c5) (by have := HYX.out; have := HRX.out; omega))
      have HVE := Lib.hid (HV4.setAway (Y := w2.heap.size) (i := 0) (u := .slice a5 F.N c5) (by have := HYX.out; omega))
      have HTE := Lib.hid (IsTr.setOther (u := .slice a5 F.N c5) y0 (by simp) (by simp) t2 (IsTr.keep hb4 t2 HTS2.out))
      have HOE := Lib.hid (hr5.setOther (u := .slice a5 F.N c5) y0 (by simp))
      have HFE := Lib.hid (OwnE.mono (OwnE.far hf5 ⟨w2.heap.size, 0, none⟩ (.slice a5 F.N c5) (fun h => by have h9 := (hf5.lt w2.heap.size h).1; have h8 := HYS.out.lt; omega)) HSZ0.out)
      have y1 := World.cell?_setCell_same w4 ⟨w2.heap.size, 0, none⟩ (.slice a5 F.N c5) y0
      have e0 := HHE.out.b0
      have e1 := HHE.out.b1
      have v0 := HVE.out.x0
      have v1' := HVE.out.x1
      have v2 := HVE.out.x2
      clear hr5 hf5 hb4 HH4 HV4 HY4 HDR HHS HVS HTS2 HYS
      go_wp2_with fail
      refine (with_is a F.N c a5 F.N c5 mb ts ⟨nm, v1.n, v1.r, a2, t2⟩ _ (HT.out.keep HHE.out.rf.bel) HTE.out hnm (by omega)).mono ?_
      rintro e w5 ⟨b, rfl, hT5, hb5⟩
      have hR5 := HHE.out.rf.later hb5
      have r0 := hR5.r0
      have r1' := hR5.r1
      have f0' := hR5.f0
      have f1' := hR5.f1
      have hvol : (⟨nm, v1.n, v1.r, a2, t2⟩ : VT).vol = v1.vol.set (putL v1.t.toL x) := by
        show (⟨nm, v1.n, v1.r, t2.toL⟩ : Vol) = ⟨v1.nm, v1.n, v1.r, putL v1.t.toL x⟩
        rw [HVN.out, HL2.out]
      have hfam : FamV w5 (.agg #[.slice a5 F.N c5, .map (some b)]) G := by
        rw [← HGN.out]
        exact FamV.mk' (HOE.out.keep hb5) hT5 (by rw [put_vol, HTS.out, hvol, HGV.out])
      have HQ1 := Lib.hid (hR5.below (u := .slice a5 F.N c5) (v := .map (some b)))
      have HQ2 := Lib.hid (hR5.fam (u := .slice a5 F.N c5) (v := .map (some b)) hfam)
      have HQ3 := Lib.hid (fam2_own (R := w.heap.size + 1 + 1) (u := .slice a5 F.N c5) (v := .map (some b)) (OwnE.keep HFE.out hb5) (Nat.lt_succ_self _))
      have HR5 := Lib.hid hR5
      clear hb5 hT5 hvol hfam hR5
      go_wp2_with fail
      obtain ⟨j0, j1⟩ := HR5.out.cells (u := .slice a5 F.N c5) (v := .map (some b))
      (try simp only [Exit.inBlock, Exit.then])
      refine bodyPost_ret (v := .tuple #[.agg #[.slice a5 F.N c5, .map (some b)], .slice fa Lf.length fc, .int .i64 0]) (by first | (rw [results_cell_tmp rfl]; go_simp; done) | (rw [results_cell_tmp2 rfl]; go_simp; done) | (rw [results_cell_one rfl]; go_simp; done)) rfl ?_
      exact ⟨_, _, rfl, HQ2.out, OwnE.mono HQ3.out (by omega), HQ1.out⟩
end Go.Proofs.YtpakjddfnhnndaaGreat
