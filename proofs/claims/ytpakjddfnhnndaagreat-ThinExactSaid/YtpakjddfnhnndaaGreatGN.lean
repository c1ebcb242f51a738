/-
  tegularef36: inside, Unmap.
  tegularef36: Assign.
  Conditions: as each theorem says.
-/
import Derived.Test.YtpakjddfnhnndaaGreatFcH
import Derived.Test.YtpakjddfnhnndaaGreatGC
namespace Go.Proofs.YtpakjddfnhnndaaGreat
set_option linter.unusedSimpArgs false
set_option linter.unusedVariables false
set_option maxRecDepth 100000
open Go.RowKit Go.Maps

theorem rcut_l (l : List E) (p n : Int) (a : Option Addr) (c : Nat) (w : World) (hr : Rd w a l) (hl : l.length ≤ 100000000) (hv : validB l = true) (hp : withinB p n 65536 = true) :
    Calls Tryz.prog 88 #[.slice a l.length c, .int .i64 p, .int .i64 n] w fun e w' =>
      ∃ v m, e = .returned (.tuple #[v, m, .int .i64 0]) ∧ OwnE w' w.heap.size v (cutL l p n) ∧ OwnE w' w.heap.size m (inL l p n) ∧ Below w.heap.size w w' := by
  have hn : 0 ≤ n := by have h : 0 ≤ p ∧ 0 ≤ n ∧ p ≤ 65536 ∧ n ≤ 65536 - p := of_decide_eq_true hp; omega
  rw [cutL_eq l p n hn hv, inL_eq l p n]
  exact rcut_yes l p n a c w hr (fun y hy => okB_wf (validB_ok hv y hy)) hl hv hp (parts_append_valid l 0 p (p + n) 65536 hv (by omega)) (parts_valid l p (p + n) hv)
set_option maxHeartbeats 1000000 in
theorem rinside_is (x : RT) (p q : Int) (w : World) (hn : 0 ≤ x.n ∧ x.n ≤ 65536) (b : Bool) (hb : inB p q x.n = b) :
    Calls Tryz.prog 87 #[x.val, .int .i64 p, .int .i64 q] w fun e w' => e = .returned (.bool b) ∧ Below w.heap.size w w' := by
  subst hb
  go_enter Tryz.func87, Tryz.ntmps87
  go_wp2
  all_goals
    go_ret
    exact ⟨ret_bool (by simp only [inB, decide_eq_true_eq, Bool.false_eq_true, false_iff]; omega), by (repeat (first | exact Below.refl _ _ | assumption | refine Below.onNext ?_ _ | refine Below.onAlloc ?_ _ | refine Below.setCell ?_ (by simp) _ | refine Below.drew ?_))⟩
theorem unmap_cases (F : Fam) (nm : List UInt8) (p n : Int) :
    (getV F.vs nm = none ∧ unmapF F nm p n = (zeroF, [], 9)) ∨ ∃ v, getV F.vs nm = some v ∧
      ((inB p n v.n = false ∧ unmapF F nm p n = (zeroF, [], 2)) ∨
       (inB p n v.n = true ∧ unmapF F nm p n = (F.with (v.set (cutL v.l p n)), freedF F (F.with (v.set (cutL v.l p n))), 0))) := by
  unfold unmapF
  cases hg : getV F.vs nm with
  | none => exact .inl ⟨rfl, rfl⟩
  | some v =>
    refine .inr ⟨v, rfl, ?_⟩
    cases hn : inB p n v.n
    · exact .inl ⟨rfl, by simp [hn]⟩
    · exact .inr ⟨rfl, by simp [hn]⟩
/-- The last region of Delete, Assign and Unmap: the new family lies in block T. -/
theorem fam_short {N : Nat} {v : Vol} (h : v.ok N) : v.l.length ≤ 100000 := by have := h.short.1; omega
set_option maxHeartbeats 8000000 in
theorem runmap_is (F : Fam) (gv : Value) (nm : List UInt8) (p n : Int) (w : World) (hF : F.ok) (h : FamR w gv F) (hnm : nm.length ≤ maxLen) :
    Calls Tryz.prog 83 #[gv, nmV nm, .int .i64 p, .int .i64 n] w (RPost3 w (unmapF F nm p n).1 (unmapF F nm p n).2.1 (unmapF F nm p n).2.2) := by
  obtain ⟨a, c, ts, rfl, hr, hl, hts, hcap⟩ := h
  have h32 := (fit_len hF hts).2
  have HH := Lib.hid (GH.init w a F.N ts.length c)
  have HR := Lib.hid hr
  have HL := Lib.hid hl
  have HTS := Lib.hid hts
  have HF := Lib.hid hF
  clear hr hl hts hF hcap
  rcases unmap_cases F nm p n with ⟨hg, hc⟩ | ⟨v, hg, ⟨hn, hc⟩ | ⟨hn, hc⟩⟩
  · rw [hc]
    have HAT := Lib.hid (at_none HTS.out hg)
    clear hg hc
    go_enter Tryz.func83, Tryz.ntmps83
    go_wp2_with fail
    refine (rat_r F.N ts nm a c _ (HR.out.keep HH.out.rg.bel) _ HAT.out).mono ?_
    rintro e w1 ⟨rfl, hb⟩
    have HH := Lib.hid (HH.out.later hb)
    clear hb
    have b0 := HH.out.b0
    have b1 := HH.out.b1
    have r0 := HH.out.rg.r0
    have r1 := HH.out.rg.r1
    have f0 := HH.out.rg.f0
    have f1 := HH.out.rg.f1
    go_wp2_with fail
    obtain ⟨j0, j1⟩ := HH.out.rg.cells (u := .int .i64 0) (v := .slice none 0 0)
    (try simp only [Exit.inBlock, Exit.then])
    refine bodyPost_ret (v := .tuple #[.agg #[.int .i64 0, .slice none 0 0], .slice none 0 0, .int .i64 9]) (by first | (rw [results_cell_tmp rfl]; go_simp; done) | (rw [results_cell_tmp2 rfl]; go_simp; done) | (rw [results_cell_one rfl]; go_simp; done)) rfl ?_
    exact ⟨_, _, rfl, FamR.empty _ 0, OwnE.nil _ _, HH.out.rg.below⟩
  · rw [hc]
    obtain ⟨k, hk, hat, hv, hkn⟩ := at_some HTS.out hg
    clear hkn
    have hok := HF.out.vol v (getV_mem hg).1
    have HAT := Lib.hid hat
    have HIN := Lib.hid hn
    have hb1 := hok.n1
    have hb2 := hok.n2
    have HMEM := Lib.hid (List.getElem_mem hk)
    have HGET := Lib.hid (List.getElem?_eq_getElem hk)
    generalize ts[k] = x at *
    subst hv
    clear hg hc hat hn hok
    go_enter Tryz.func83, Tryz.ntmps83
    go_wp2_with fail
    refine (rat_r F.N ts nm a c _ (HR.out.keep HH.out.rg.bel) _ HAT.out).mono ?_
    rintro e w1 ⟨rfl, hb⟩
    have HH := Lib.hid (HH.out.later hb)
    clear hb
    have b0 := HH.out.b0
    have b1 := HH.out.b1
    have r0 := HH.out.rg.r0
    have r1 := HH.out.rg.r1
    have f0 := HH.out.rg.f0
    have f1 := HH.out.rg.f1
    obtain ⟨b, o, rfl, hat⟩ := (HR.out.keep HH.out.rg.bel).at (by omega)
    obtain ⟨e0, e1, e2, e3⟩ := hat k x HGET.out
    clear hat
    have HX := Lib.hid (VX.new w1 _ rfl x 56)
    have x0 := HX.out.x0
    have x1 := HX.out.x1
    have x2 := HX.out.x2
    have x3 := HX.out.x3
    have HB1 := Lib.hid hb1
    have HB2 := Lib.hid hb2
    clear hb1 hb2
    go_wp2_with fail
    refine (rinside_is x p n _ ⟨by have : 1 ≤ x.n := HB1.out; omega, HB2.out⟩ false HIN.out).mono ?_
    rintro e w2 ⟨rfl, hb⟩
    have HH := Lib.hid ((HH.out.alloc #[nmV x.nm, .int .i64 x.n, .int .i64 x.r, x.sl] 56).later hb)
    clear hb b0 b1 r0 r1 f0 f1 e0 e1 e2 e3
    have b0 := HH.out.b0
    have b1 := HH.out.b1
    have r0 := HH.out.rg.r0
    have r1 := HH.out.rg.r1
    have f0 := HH.out.rg.f0
    have f1 := HH.out.rg.f1
    go_wp2_with fail
    obtain ⟨j0, j1⟩ := HH.out.rg.cells (u := .int .i64 0) (v := .slice none 0 0)
    (try simp only [Exit.inBlock, Exit.then])
    refine bodyPost_ret (v := .tuple #[.agg #[.int .i64 0, .slice none 0 0], .slice none 0 0, .int .i64 2]) (by first | (rw [results_cell_tmp rfl]; go_simp; done) | (rw [results_cell_tmp2 rfl]; go_simp; done) | (rw [results_cell_one rfl]; go_simp; done)) rfl ?_
    exact ⟨_, _, rfl, FamR.empty _ 0, OwnE.nil _ _, HH.out.rg.below⟩
  · rw [hc]
    obtain ⟨k, hk, hat, hv, hkn⟩ := at_some HTS.out hg
    clear hkn
    have hok := HF.out.vol v (getV_mem hg).1
    have hgv := (getV_mem hg).2
    have hg' : getV F.vs v.nm = some v := by rw [hgv]; exact hg
    have HOK := Lib.hid hok
    have HWI := Lib.hid (hok.cut hn).1
    have HOKG : Hid (F.with (v.set (cutL v.l p n))).ok := Lib.hid (by have := ok_unmap HF.out nm p n; rw [hc] at this; exact this)
    have HAT := Lib.hid hat
    have HIN := Lib.hid hn
    have hb1 := hok.n1
    have hb2 := hok.n2
    have HMEM := Lib.hid (List.getElem_mem hk)
    have HGET := Lib.hid (List.getElem?_eq_getElem hk)
    generalize ts[k] = x at *
    subst hv
    clear hg hc hat hn hok hgv hg'
    go_enter Tryz.func83, Tryz.ntmps83
    go_wp2_with fail
    refine (rat_r F.N ts nm a c _ (HR.out.keep HH.out.rg.bel) _ HAT.out).mono ?_
    rintro e w1 ⟨rfl, hb⟩
    have HH := Lib.hid (HH.out.later hb)
    clear hb
    have b0 := HH.out.b0
    have b1 := HH.out.b1
    have r0 := HH.out.rg.r0
    have r1 := HH.out.rg.r1
    have f0 := HH.out.rg.f0
    have f1 := HH.out.rg.f1
    obtain ⟨b, o, rfl, hat⟩ := (HR.out.keep HH.out.rg.bel).at (by omega)
    obtain ⟨e0, e1, e2, e3⟩ := hat k x HGET.out
    clear hat
    have HX := Lib.hid (VX.new w1 _ rfl x 56)
    have x0 := HX.out.x0
    have x1 := HX.out.x1
    have x2 := HX.out.x2
    have x3 := HX.out.x3
    have HB1 := Lib.hid hb1
    have HB2 := Lib.hid hb2
    clear hb1 hb2
    go_wp2_with fail
    refine (rinside_is x p n _ ⟨by have : 1 ≤ x.n := HB1.out; omega, HB2.out⟩ true HIN.out).mono ?_
    rintro e w2 ⟨rfl, hb⟩
    have HX := Lib.hid (HX.out.later hb)
    clear x0 x1 x2 x3
    have HH1 := Lib.hid HH.out.rg.lt
    have HH := Lib.hid ((HH.out.alloc #[nmV x.nm, .int .i64 x.n, .int .i64 x.r, x.sl] 56).later hb)
    clear hb b0 b1 r0 r1 f0 f1 e0 e1 e2 e3
    have x3 := HX.out.x3
    go_wp2_with fail
    refine (rcut_l x.l p n x.a x.c _ ((HL.out x HMEM.out).keep HH.out.rg.bel) (by have : x.l.length ≤ 100000 := fam_short HOK.out; omega) HOK.out.valid HWI.out).mono ?_
    rintro e w3 ⟨sv, mv, rfl, hos, _, hb⟩
    obtain ⟨sa, sc, rfl, hrs⟩ := hos.rd (by have := fam_short (HOK.out.cut HIN.out).2; have : (cutL x.l p n).length ≤ 100000 := this; omega)
    have hXl := HX.out.lt
    have ho3 := OwnE.far hos ⟨w1.heap.size, 3, none⟩ (.slice sa (cutL x.l p n).length sc) (fun e => by have := (hos.lt _ e).1; simp only at this; omega)
    have HRS := Lib.hid (ho3.rd' hrs.1)
    have HXA := Lib.hid (HX.out.later hb)
    have HXB := Lib.hid ((HX.out.later hb).list sa sc (cutL x.l p n))
    have HHB := Lib.hid ((HH.out.later hb).setAway (i := 3) (u := .slice sa (cutL x.l p n).length sc) HH1.out)
    clear hos hrs ho3 hb x3 HX HH
    have x3 := HXA.out.x3
    have g3 := HXA.out.g3
    have y0 := HXB.out.x0
    have y1 := HXB.out.x1
    have y2 := HXB.out.x2
    have y3 := HXB.out.x3
    have b0 := HHB.out.b0
    have b1 := HHB.out.b1
    go_wp2_with fail
    refine (rwith_is F.N ts ⟨x.nm, x.n, x.r, sa, sc, cutL x.l p n⟩ (some ⟨b, o, none⟩) c _ (HR.out.keep HHB.out.rg.bel) (by omega)).mono ?_
    rintro e w4 ⟨a4, c4, rfl, hr4, hc4, hb⟩
    have hk4 := HHB.out.rg.bel.on hb
    have HL4 := Lib.hid (HL.out.keep hk4)
    have HRS4 := Lib.hid (HRS.out.keep hb)
    have HFR := Lib.hid (famR_with (c := c4) HF.out HTS.out hr4 HL4.out HRS4.out hc4)
    have HL5 : Hid (ListsR w4 (withR ts ⟨x.nm, x.n, x.r, sa, sc, cutL x.l p n⟩)) := Lib.hid fun y hy => (mem_withR hy).elim (fun e => by rw [e]; exact HRS4.out) (HL4.out y)
    have HGV : Hid ((withR ts ⟨x.nm, x.n, x.r, sa, sc, cutL x.l p n⟩).map RT.vol = (F.with (x.vol.set (cutL x.l p n))).vs) := Lib.hid (by rw [withR_vol _ _ (ts_sorted HF.out HTS.out), HTS.out]; rfl)
    have HH4 := Lib.hid (HHB.out.later hb)
    clear x3 g3 y0 y1 y2 y3 b0 b1 hk4 hb HXA HXB HHB
    have HT := Lib.hid (Bx.new w4 _ rfl (.int .i64 F.N) (.slice a4 (withR ts ⟨x.nm, x.n, x.r, sa, sc, cutL x.l p n⟩).length c4) 45)
    have hk5 := (Below.refl w4.heap.size w4).onAlloc (.cells #[.int .i64 F.N, .slice a4 (withR ts ⟨x.nm, x.n, x.r, sa, sc, cutL x.l p n⟩).length c4] 45)
    have HH5 := Lib.hid (HH4.out.later hk5)
    have HR5 := Lib.hid (hr4.keep hk5)
    have HL6 := Lib.hid (HL5.out.keep hk5)
    have HFR5 := Lib.hid (HFR.out.keep hk5)
    clear hk5 hr4 hc4 HL5 HFR HH4 HL4 HRS4 HRS
    go_upto_region 9 with fail
    obtain ⟨ws, hws⟩ : ∃ l, l = withR ts ⟨x.nm, x.n, x.r, sa, sc, cutL x.l p n⟩ := ⟨_, rfl⟩
    rw [← hws] at HT HR5 HL6 HFR5 HGV HH5 ⊢
    generalize w4.alloc (.cells #[.int .i64 F.N, .slice a4 ws.length c4] 45) = W5 at *
    generalize w4.heap.size = T5 at *
    clear hws
    have HG := Lib.hid (HH5.out.later (Below.refl _ _).drew)
    have HX := Lib.hid (HT.out.later (Below.refl _ _).drew)
    have HRR := Lib.hid (HR5.out.keep (Below.refl _ _).drew)
    have HLG := Lib.hid (HL6.out.keep (Below.refl _ _).drew)
    have HFR6 := Lib.hid (HFR5.out.keep (Below.refl _ _).drew)
    have hbw := HG.out.rg.bel
    have HRF := Lib.hid (HR.out.keep hbw)
    have HLF := Lib.hid (HL.out.keep hbw)
    clear hbw
    have b0 := HG.out.b0
    have b1 := HG.out.b1
    have t0 := HX.out.c0
    have t1 := HX.out.c1
    go_region_law ((go_simp; go_at_call 119; refine (rfreed_is F (F.with (x.vol.set (cutL x.l p n))) ts ws (some ⟨b, o, none⟩) a4 c c4 _ HF.out HOKG.out rfl HTS.out HGV.out HRF.out HLF.out HRR.out HLG.out).mono ?_; rintro e w6 ⟨vv, rfl, hs4, hb4⟩; have HG4 := Lib.hid (HG.out.later hb4); have HX4 := Lib.hid (HX.out.later hb4); have t0 := HX4.out.c0; have t1 := HX4.out.c1; have r0 := HG4.out.rg.r0; have r1 := HG4.out.rg.r1; have f0 := HG4.out.rg.f0; have f1 := HG4.out.rg.f1))
    all_goals
      have HFR7 := Lib.hid (HFR6.out.keep hb4)
      have HS4 := Lib.hid (fam2_own (u := .int .i64 F.N) (v := .slice a4 ws.length c4) hs4 HG.out.rg.lt)
      clear hs4 hb4
      go_wp2_with fail
      obtain ⟨j0, j1⟩ := HG4.out.rg.cells (u := .int .i64 F.N) (v := .slice a4 ws.length c4)
      (try simp only [Exit.inBlock, Exit.then])
      refine bodyPost_ret (v := .tuple #[.agg #[.int .i64 F.N, .slice a4 ws.length c4], vv, .int .i64 0]) (by first | (rw [results_cell_tmp rfl]; go_simp; done) | (rw [results_cell_tmp2 rfl]; go_simp; done) | (rw [results_cell_one rfl]; go_simp; done)) rfl ?_
      exact ⟨_, _, rfl, HG4.out.rg.bx HFR7.out, HS4.out.mono HG.out.rg.bel.size, HG4.out.rg.below⟩
end Go.Proofs.YtpakjddfnhnndaaGreat

namespace Go.Proofs.YtpakjddfnhnndaaGreat
set_option linter.unusedSimpArgs false
set_option linter.unusedVariables false
set_option maxRecDepth 100000
open Go.RowKit Go.Maps

/-- An extent in a box. -/
structure XE (W : World) (X : Nat) (x : E) : Prop where
  e0 : W.cell? ⟨X, 0, none⟩ = some (.int .i64 x.a)
  e1 : W.cell? ⟨X, 1, none⟩ = some (.int .i64 x.n)
  e2 : W.cell? ⟨X, 2, none⟩ = some (.int .i64 x.s)
theorem XE.later {W W' : World} {X : Nat} {x : E} (h : XE W X x) (hb : Below W.heap.size W W') : XE W' X x := ⟨hb.keep h.e0, hb.keep h.e1, hb.keep h.e2⟩
theorem XE.new (V : World) (B : Nat) (hB : V.heap.size = B) (x : E) : XE (V.alloc (.cells #[.int .i64 x.a, .int .i64 x.n, .int .i64 x.s] 65)) B x := by
  subst hB
  exact ⟨by simp, by simp, by simp⟩
theorem XE.setAway {W : World} {X Y i : Nat} {x : E} {u : Value} (h : XE W X x) (hne : X ≠ Y) : XE (W.setCell ⟨Y, i, none⟩ u) X x := ⟨(cell_far hne).trans h.e0, (cell_far hne).trans h.e1, (cell_far hne).trans h.e2⟩
theorem GH.initE (w : World) (a : Option Addr) (n : Int) (m c : Nat) (x : E) (W : World) (hW : W = ((w.alloc (.cells #[.int .i64 n, .slice a m c] 45)).alloc (.cells #[.int .i64 x.a, .int .i64 x.n, .int .i64 x.s] 65)).alloc (.cells #[.int .i64 0, .slice none 0 0] 45)) :
    GH w W a n m c (w.heap.size + 1 + 1) ∧ XE W (w.heap.size + 1) x := by
  subst hW
  have hs : ((w.alloc (.cells #[.int .i64 n, .slice a m c] 45)).alloc (.cells #[.int .i64 x.a, .int .i64 x.n, .int .i64 x.s] 65)).heap.size = w.heap.size + 1 + 1 := by simp
  have h := RG.new w ((w.alloc (.cells #[.int .i64 n, .slice a m c] 45)).alloc (.cells #[.int .i64 x.a, .int .i64 x.n, .int .i64 x.s] 65)) 45 (((Below.refl _ _).onAlloc _).onAlloc _)
  rw [hs] at h
  have h2 := (Bx.new w _ rfl (.int .i64 n) (.slice a m c) 45).later (((Below.refl _ _).onAlloc (.cells #[.int .i64 x.a, .int .i64 x.n, .int .i64 x.s] 65)).onAlloc (.cells #[.int .i64 0, .slice none 0 0] 45))
  have h3 := (XE.new (w.alloc (.cells #[.int .i64 n, .slice a m c] 45)) (w.heap.size + 1) (by simp) x).later ((Below.refl _ _).onAlloc (.cells #[.int .i64 0, .slice none 0 0] 45))
  exact ⟨⟨h2.c0, h2.c1, h⟩, h3⟩
theorem assign_cases (F : Fam) (nm : List UInt8) (x : E) :
    (getV F.vs nm = none ∧ assignF F nm x = (zeroF, [], 9)) ∨ ∃ v, getV F.vs nm = some v ∧
      ((x.n < 1 ∧ assignF F nm x = (zeroF, [], 2)) ∨ (1 ≤ x.n ∧ inB x.a x.n v.n = false ∧ assignF F nm x = (zeroF, [], 2)) ∨
       (1 ≤ x.n ∧ inB x.a x.n v.n = true ∧ (x.s < 0 ∨ F.N < x.s + x.n) ∧ assignF F nm x = (zeroF, [], 2)) ∨
       ((inB x.a x.n v.n && slotB F.N x) = true ∧ assignF F nm x = (F.with (v.set (putL v.l x)), freedF F (F.with (v.set (putL v.l x))), 0))) := by
  unfold assignF
  cases hg : getV F.vs nm with
  | none => exact .inl ⟨rfl, rfl⟩
  | some v =>
    refine .inr ⟨v, rfl, ?_⟩
    cases hb : (inB x.a x.n v.n && slotB F.N x)
    · by_cases h1 : x.n < 1
      · exact .inl ⟨h1, by simp [hb]⟩
      cases hi : inB x.a x.n v.n
      · exact .inr (.inl ⟨by omega, rfl, by simp [hi]⟩)
      · rw [hi, Bool.true_and] at hb
        have : ¬ (1 ≤ x.n ∧ 0 ≤ x.s ∧ x.s + x.n ≤ F.N) := of_decide_eq_false hb
        exact .inr (.inr (.inl ⟨by omega, rfl, by omega, by simp [hb]⟩))
    · exact .inr (.inr (.inr ⟨rfl, by simp [hb]⟩))
set_option maxHeartbeats 8000000 in
theorem rassign_is (F : Fam) (gv : Value) (nm : List UInt8) (x : E) (w : World) (hF : F.ok) (h : FamR w gv F) (hnm : nm.length ≤ maxLen) (hx : x.wf) :
    Calls Tryz.prog 84 #[gv, nmV nm, .agg #[.int .i64 x.a, .int .i64 x.n, .int .i64 x.s]] w (RPost3 w (assignF F nm x).1 (assignF F nm x).2.1 (assignF F nm x).2.2) := by
  obtain ⟨a, c, ts, rfl, hr, hl, hts, hcap⟩ := h
  have h32 := (fit_len hF hts).2
  obtain ⟨h0, h1⟩ := GH.initE w a F.N ts.length c x _ rfl
  have HH := Lib.hid h0
  have HE := Lib.hid h1
  have HR := Lib.hid hr
  have HL := Lib.hid hl
  have HTS := Lib.hid hts
  have HF := Lib.hid hF
  have hxw := hx
  unfold E.wf at hxw
  have hNN := hF.hN
  clear hr hl hts hF hcap h0 h1 hx
  rcases assign_cases F nm x with ⟨hg, hc⟩ | ⟨v, hg, ⟨hn, hc⟩ | ⟨hn1, hn, hc⟩ | ⟨hn1, hn, hs, hc⟩ | ⟨hn, hc⟩⟩
  · rw [hc]
    have HAT := Lib.hid (at_none HTS.out hg)
    clear hg hc
    go_enter Tryz.func84, Tryz.ntmps84
    go_wp2_with fail
    refine (rat_r F.N ts nm a c _ (HR.out.keep HH.out.rg.bel) _ HAT.out).mono ?_
    rintro e w1 ⟨rfl, hb⟩
    have HH := Lib.hid (HH.out.later hb)
    clear hb
    have b0 := HH.out.b0
    have b1 := HH.out.b1
    have r0 := HH.out.rg.r0
    have r1 := HH.out.rg.r1
    have f0 := HH.out.rg.f0
    have f1 := HH.out.rg.f1
    go_wp2_with fail
    obtain ⟨j0, j1⟩ := HH.out.rg.cells (u := .int .i64 0) (v := .slice none 0 0)
    (try simp only [Exit.inBlock, Exit.then])
    refine bodyPost_ret (v := .tuple #[.agg #[.int .i64 0, .slice none 0 0], .slice none 0 0, .int .i64 9]) (by first | (rw [results_cell_tmp rfl]; go_simp; done) | (rw [results_cell_tmp2 rfl]; go_simp; done) | (rw [results_cell_one rfl]; go_simp; done)) rfl ?_
    exact ⟨_, _, rfl, FamR.empty _ 0, OwnE.nil _ _, HH.out.rg.below⟩
  · rw [hc]
    obtain ⟨k, hk, hat, hv, hkn⟩ := at_some HTS.out hg
    have hok := HF.out.vol v (getV_mem hg).1
    have HAT := Lib.hid hat
    have HB1 := Lib.hid hok.n1
    have HB2 := Lib.hid hok.n2
    have HMEM := Lib.hid (List.getElem_mem hk)
    have HGET := Lib.hid (List.getElem?_eq_getElem hk)
    clear hkn
    generalize ts[k] = y at *
    subst hv
    have HOK := Lib.hid hok
    clear hg hc hat hok
    go_enter Tryz.func84, Tryz.ntmps84
    go_wp2_with fail
    refine (rat_r F.N ts nm a c _ (HR.out.keep HH.out.rg.bel) _ HAT.out).mono ?_
    rintro e w1 ⟨rfl, hb⟩
    replace HE := Lib.hid (HE.out.later hb)
    have HH := Lib.hid (HH.out.later hb)
    clear hb
    have b0 := HH.out.b0
    have b1 := HH.out.b1
    have r0 := HH.out.rg.r0
    have r1 := HH.out.rg.r1
    have f0 := HH.out.rg.f0
    have f1 := HH.out.rg.f1
    have q0 := HE.out.e0
    have q1 := HE.out.e1
    have q2 := HE.out.e2
    obtain ⟨b, o, rfl, hat⟩ := (HR.out.keep HH.out.rg.bel).at (by omega)
    obtain ⟨e0, e1, e2, e3⟩ := hat k y HGET.out
    clear hat
    have HX := Lib.hid (VX.new w1 _ rfl y 56)
    have x0 := HX.out.x0
    have x1 := HX.out.x1
    have x2 := HX.out.x2
    have x3 := HX.out.x3
    have HH9 := Lib.hid (HH.out.alloc #[nmV y.nm, .int .i64 y.n, .int .i64 y.r, y.sl] 56)
    have s0 := HH9.out.rg.r0
    have s1 := HH9.out.rg.r1
    have s2 := HH9.out.rg.f0
    have s3 := HH9.out.rg.f1
    go_wp2_with fail
    replace HH := HH9
    obtain ⟨j0, j1⟩ := HH.out.rg.cells (u := .int .i64 0) (v := .slice none 0 0)
    (try simp only [Exit.inBlock, Exit.then])
    refine bodyPost_ret (v := .tuple #[.agg #[.int .i64 0, .slice none 0 0], .slice none 0 0, .int .i64 2]) (by first | (rw [results_cell_tmp rfl]; go_simp; done) | (rw [results_cell_tmp2 rfl]; go_simp; done) | (rw [results_cell_one rfl]; go_simp; done)) rfl ?_
    exact ⟨_, _, rfl, FamR.empty _ 0, OwnE.nil _ _, HH.out.rg.below⟩
  · rw [hc]
    obtain ⟨k, hk, hat, hv, hkn⟩ := at_some HTS.out hg
    have hok := HF.out.vol v (getV_mem hg).1
    have HAT := Lib.hid hat
    have HB1 := Lib.hid hok.n1
    have HB2 := Lib.hid hok.n2
    have HMEM := Lib.hid (List.getElem_mem hk)
    have HGET := Lib.hid (List.getElem?_eq_getElem hk)
    clear hkn
    generalize ts[k] = y at *
    subst hv
    have HOK := Lib.hid hok
    clear hg hc hat hok
    go_enter Tryz.func84, Tryz.ntmps84
    go_wp2_with fail
    refine (rat_r F.N ts nm a c _ (HR.out.keep HH.out.rg.bel) _ HAT.out).mono ?_
    rintro e w1 ⟨rfl, hb⟩
    replace HE := Lib.hid (HE.out.later hb)
    have HH := Lib.hid (HH.out.later hb)
    clear hb
    have b0 := HH.out.b0
    have b1 := HH.out.b1
    have r0 := HH.out.rg.r0
    have r1 := HH.out.rg.r1
    have f0 := HH.out.rg.f0
    have f1 := HH.out.rg.f1
    have q0 := HE.out.e0
    have q1 := HE.out.e1
    have q2 := HE.out.e2
    obtain ⟨b, o, rfl, hat⟩ := (HR.out.keep HH.out.rg.bel).at (by omega)
    obtain ⟨e0, e1, e2, e3⟩ := hat k y HGET.out
    clear hat
    have HX := Lib.hid (VX.new w1 _ rfl y 56)
    have x0 := HX.out.x0
    have x1 := HX.out.x1
    have x2 := HX.out.x2
    have x3 := HX.out.x3
    have HIN := Lib.hid hn
    clear hn
    go_wp2_with fail
    refine (rinside_is y x.a x.n _ ⟨by have : 1 ≤ y.n := HB1.out; omega, HB2.out⟩ false HIN.out).mono ?_
    rintro e w2 ⟨rfl, hb⟩
    replace HE := Lib.hid ((HE.out.later ((Below.refl _ _).onAlloc (.cells #[nmV y.nm, .int .i64 y.n, .int .i64 y.r, y.sl] 56))).later hb)
    have HH := Lib.hid ((HH.out.alloc #[nmV y.nm, .int .i64 y.n, .int .i64 y.r, y.sl] 56).later hb)
    clear hb b0 b1 r0 r1 f0 f1 e0 e1 e2 e3 q0 q1 q2 x0 x1 x2 x3
    have b0 := HH.out.b0
    have b1 := HH.out.b1
    have r0 := HH.out.rg.r0
    have r1 := HH.out.rg.r1
    have f0 := HH.out.rg.f0
    have f1 := HH.out.rg.f1
    have q0 := HE.out.e0
    have q1 := HE.out.e1
    have q2 := HE.out.e2
    go_wp2_with fail
    obtain ⟨j0, j1⟩ := HH.out.rg.cells (u := .int .i64 0) (v := .slice none 0 0)
    (try simp only [Exit.inBlock, Exit.then])
    refine bodyPost_ret (v := .tuple #[.agg #[.int .i64 0, .slice none 0 0], .slice none 0 0, .int .i64 2]) (by first | (rw [results_cell_tmp rfl]; go_simp; done) | (rw [results_cell_tmp2 rfl]; go_simp; done) | (rw [results_cell_one rfl]; go_simp; done)) rfl ?_
    exact ⟨_, _, rfl, FamR.empty _ 0, OwnE.nil _ _, HH.out.rg.below⟩
  · rw [hc]
    obtain ⟨k, hk, hat, hv, hkn⟩ := at_some HTS.out hg
    have hok := HF.out.vol v (getV_mem hg).1
    have HAT := Lib.hid hat
    have HB1 := Lib.hid hok.n1
    have HB2 := Lib.hid hok.n2
    have HMEM := Lib.hid (List.getElem_mem hk)
    have HGET := Lib.hid (List.getElem?_eq_getElem hk)
    clear hkn
    generalize ts[k] = y at *
    subst hv
    have HOK := Lib.hid hok
    clear hg hc hat hok
    go_enter Tryz.func84, Tryz.ntmps84
    go_wp2_with fail
    refine (rat_r F.N ts nm a c _ (HR.out.keep HH.out.rg.bel) _ HAT.out).mono ?_
    rintro e w1 ⟨rfl, hb⟩
    replace HE := Lib.hid (HE.out.later hb)
    have HH := Lib.hid (HH.out.later hb)
    clear hb
    have b0 := HH.out.b0
    have b1 := HH.out.b1
    have r0 := HH.out.rg.r0
    have r1 := HH.out.rg.r1
    have f0 := HH.out.rg.f0
    have f1 := HH.out.rg.f1
    have q0 := HE.out.e0
    have q1 := HE.out.e1
    have q2 := HE.out.e2
    obtain ⟨b, o, rfl, hat⟩ := (HR.out.keep HH.out.rg.bel).at (by omega)
    obtain ⟨e0, e1, e2, e3⟩ := hat k y HGET.out
    clear hat
    have HX := Lib.hid (VX.new w1 _ rfl y 56)
    have x0 := HX.out.x0
    have x1 := HX.out.x1
    have x2 := HX.out.x2
    have x3 := HX.out.x3
    have HIN := Lib.hid hn
    clear hn
    go_wp2_with fail
    refine (rinside_is y x.a x.n _ ⟨by have : 1 ≤ y.n := HB1.out; omega, HB2.out⟩ true HIN.out).mono ?_
    rintro e w2 ⟨rfl, hb⟩
    replace HE := Lib.hid ((HE.out.later ((Below.refl _ _).onAlloc (.cells #[nmV y.nm, .int .i64 y.n, .int .i64 y.r, y.sl] 56))).later hb)
    have HH := Lib.hid ((HH.out.alloc #[nmV y.nm, .int .i64 y.n, .int .i64 y.r, y.sl] 56).later hb)
    clear hb b0 b1 r0 r1 f0 f1 e0 e1 e2 e3 q0 q1 q2 x0 x1 x2 x3
    obtain ⟨i1, i2, i3, i4⟩ := (inB_iff _ _ _).1 HIN.out
    have i5 : x.n ≤ 65536 := by have := HB2.out; omega
    clear i1 i2 i3 i4
    have b0 := HH.out.b0
    have b1 := HH.out.b1
    have r0 := HH.out.rg.r0
    have r1 := HH.out.rg.r1
    have f0 := HH.out.rg.f0
    have f1 := HH.out.rg.f1
    have q0 := HE.out.e0
    have q1 := HE.out.e1
    have q2 := HE.out.e2
    go_wp2_with fail
    all_goals first
      | (exfalso; omega)
      | (obtain ⟨j0, j1⟩ := HH.out.rg.cells (u := .int .i64 0) (v := .slice none 0 0)
         (try simp only [Exit.inBlock, Exit.then])
         refine bodyPost_ret (v := .tuple #[.agg #[.int .i64 0, .slice none 0 0], .slice none 0 0, .int .i64 2]) (by first | (rw [results_cell_tmp rfl]; go_simp; done) | (rw [results_cell_tmp2 rfl]; go_simp; done) | (rw [results_cell_one rfl]; go_simp; done)) rfl ?_
         exact ⟨_, _, rfl, FamR.empty _ 0, OwnE.nil _ _, HH.out.rg.below⟩)
  · obtain ⟨hn1, hn2⟩ := Bool.and_eq_true_iff.1 hn
    obtain ⟨s1, s2, s3⟩ : 1 ≤ x.n ∧ 0 ≤ x.s ∧ x.s + x.n ≤ F.N := of_decide_eq_true hn2
    have HOKG : Hid (F.with (v.set (putL v.l x))).ok := Lib.hid (by have := ok_assign HF.out nm x; rw [hc] at this; exact this)
    have HPUT := Lib.hid ((HF.out.vol v (getV_mem hg).1).put HF.out.hN hn)
    rw [hc]
    obtain ⟨k, hk, hat, hv, hkn⟩ := at_some HTS.out hg
    have hok := HF.out.vol v (getV_mem hg).1
    have HAT := Lib.hid hat
    have HB1 := Lib.hid hok.n1
    have HB2 := Lib.hid hok.n2
    have HMEM := Lib.hid (List.getElem_mem hk)
    have HGET := Lib.hid (List.getElem?_eq_getElem hk)
    clear hkn
    generalize ts[k] = y at *
    subst hv
    have HOK := Lib.hid hok
    clear hg hc hat hok
    go_enter Tryz.func84, Tryz.ntmps84
    go_wp2_with fail
    refine (rat_r F.N ts nm a c _ (HR.out.keep HH.out.rg.bel) _ HAT.out).mono ?_
    rintro e w1 ⟨rfl, hb⟩
    replace HE := Lib.hid (HE.out.later hb)
    have HH := Lib.hid (HH.out.later hb)
    clear hb
    have b0 := HH.out.b0
    have b1 := HH.out.b1
    have r0 := HH.out.rg.r0
    have r1 := HH.out.rg.r1
    have f0 := HH.out.rg.f0
    have f1 := HH.out.rg.f1
    have q0 := HE.out.e0
    have q1 := HE.out.e1
    have q2 := HE.out.e2
    obtain ⟨b, o, rfl, hat⟩ := (HR.out.keep HH.out.rg.bel).at (by omega)
    obtain ⟨e0, e1, e2, e3⟩ := hat k y HGET.out
    clear hat
    have HX := Lib.hid (VX.new w1 _ rfl y 56)
    have x0 := HX.out.x0
    have x1 := HX.out.x1
    have x2 := HX.out.x2
    have x3 := HX.out.x3
    have HIN := Lib.hid hn1
    clear hn hn1 hn2
    go_wp2_with fail
    refine (rinside_is y x.a x.n _ ⟨by have : 1 ≤ y.n := HB1.out; omega, HB2.out⟩ true HIN.out).mono ?_
    rintro e w2 ⟨rfl, hb⟩
    replace HE := Lib.hid ((HE.out.later ((Below.refl _ _).onAlloc (.cells #[nmV y.nm, .int .i64 y.n, .int .i64 y.r, y.sl] 56))).later hb)
    have HX := Lib.hid (HX.out.later hb)
    have HH1 := Lib.hid HH.out.rg.lt
    have HH := Lib.hid ((HH.out.alloc #[nmV y.nm, .int .i64 y.n, .int .i64 y.r, y.sl] 56).later hb)
    clear hb b0 b1 r0 r1 f0 f1 e0 e1 e2 e3 q0 q1 q2 x0 x1 x2 x3
    obtain ⟨i1, i2, i3, i4⟩ := (inB_iff _ _ _).1 HIN.out
    have i5 : x.n ≤ 65536 := by have := HB2.out; omega
    clear i1 i2 i3 i4
    have b0 := HH.out.b0
    have b1 := HH.out.b1
    have r0 := HH.out.rg.r0
    have r1 := HH.out.rg.r1
    have f0 := HH.out.rg.f0
    have f1 := HH.out.rg.f1
    have q0 := HE.out.e0
    have q1 := HE.out.e1
    have q2 := HE.out.e2
    have x3 := HX.out.x3
    go_wp2_with fail
    all_goals try (exfalso; omega)
    refine (rput_yes y.l x y.a y.c _ ((HL.out y HMEM.out).keep HH.out.rg.bel) (fun z hz => okB_wf (validB_ok HOK.out.valid z hz)) (by have : y.l.length ≤ 100000 := fam_short HOK.out; omega) HOK.out.valid HPUT.out.1).mono ?_
    rintro e w3 ⟨sv, mv, rfl, hos, _, hb⟩
    obtain ⟨sa, sc, rfl, hrs⟩ := hos.rd (by have := fam_short HPUT.out.2; have : (putL y.l x).length ≤ 100000 := this; omega)
    clear b0 b1 r0 r1 f0 f1 q0 q1 q2 HE
    have hXl := HX.out.lt
    have ho3 := OwnE.far hos ⟨w1.heap.size, 3, none⟩ (.slice sa (putL y.l x).length sc) (fun e => by have := (hos.lt _ e).1; simp only at this; omega)
    have HRS := Lib.hid (ho3.rd' hrs.1)
    have HXA := Lib.hid (HX.out.later hb)
    have HXB := Lib.hid ((HX.out.later hb).list sa sc (putL y.l x))
    have HHB := Lib.hid ((HH.out.later hb).setAway (i := 3) (u := .slice sa (putL y.l x).length sc) HH1.out)
    clear hos hrs ho3 hb x3 HX HH
    have x3 := HXA.out.x3
    have g3 := HXA.out.g3
    have y0 := HXB.out.x0
    have y1 := HXB.out.x1
    have y2 := HXB.out.x2
    have y3 := HXB.out.x3
    have b0 := HHB.out.b0
    have b1 := HHB.out.b1
    go_wp2_with fail
    refine (rwith_is F.N ts ⟨y.nm, y.n, y.r, sa, sc, putL y.l x⟩ (some ⟨b, o, none⟩) c _ (HR.out.keep HHB.out.rg.bel) (by omega)).mono ?_
    rintro e w4 ⟨a4, c4, rfl, hr4, hc4, hb⟩
    have hk4 := HHB.out.rg.bel.on hb
    have HL4 := Lib.hid (HL.out.keep hk4)
    have HRS4 := Lib.hid (HRS.out.keep hb)
    have HFR := Lib.hid (famR_with (c := c4) HF.out HTS.out hr4 HL4.out HRS4.out hc4)
    have HL5 : Hid (ListsR w4 (withR ts ⟨y.nm, y.n, y.r, sa, sc, putL y.l x⟩)) := Lib.hid fun y hy => (mem_withR hy).elim (fun e => by rw [e]; exact HRS4.out) (HL4.out y)
    have HGV : Hid ((withR ts ⟨y.nm, y.n, y.r, sa, sc, putL y.l x⟩).map RT.vol = (F.with (y.vol.set (putL y.l x))).vs) := Lib.hid (by rw [withR_vol _ _ (ts_sorted HF.out HTS.out), HTS.out]; rfl)
    have HH4 := Lib.hid (HHB.out.later hb)
    clear x3 g3 y0 y1 y2 y3 b0 b1 hk4 hb HXA HXB HHB
    have HT := Lib.hid (Bx.new w4 _ rfl (.int .i64 F.N) (.slice a4 (withR ts ⟨y.nm, y.n, y.r, sa, sc, putL y.l x⟩).length c4) 45)
    have hk5 := (Below.refl w4.heap.size w4).onAlloc (.cells #[.int .i64 F.N, .slice a4 (withR ts ⟨y.nm, y.n, y.r, sa, sc, putL y.l x⟩).length c4] 45)
    have HH5 := Lib.hid (HH4.out.later hk5)
    have HR5 := Lib.hid (hr4.keep hk5)
    have HL6 := Lib.hid (HL5.out.keep hk5)
    have HFR5 := Lib.hid (HFR.out.keep hk5)
    clear hk5 hr4 hc4 HL5 HFR HH4 HL4 HRS4 HRS
    go_upto_region 9 with fail
    obtain ⟨ws, hws⟩ : ∃ l, l = withR ts ⟨y.nm, y.n, y.r, sa, sc, putL y.l x⟩ := ⟨_, rfl⟩
    rw [← hws] at HT HR5 HL6 HFR5 HGV HH5 ⊢
    generalize w4.alloc (.cells #[.int .i64 F.N, .slice a4 ws.length c4] 45) = W5 at *
    generalize w4.heap.size = T5 at *
    clear hws
    have HG := Lib.hid (HH5.out.later (Below.refl _ _).drew)
    have HX := Lib.hid (HT.out.later (Below.refl _ _).drew)
    have HRR := Lib.hid (HR5.out.keep (Below.refl _ _).drew)
    have HLG := Lib.hid (HL6.out.keep (Below.refl _ _).drew)
    have HFR6 := Lib.hid (HFR5.out.keep (Below.refl _ _).drew)
    have hbw := HG.out.rg.bel
    have HRF := Lib.hid (HR.out.keep hbw)
    have HLF := Lib.hid (HL.out.keep hbw)
    clear hbw
    have b0 := HG.out.b0
    have b1 := HG.out.b1
    have t0 := HX.out.c0
    have t1 := HX.out.c1
    go_region_law ((go_simp; go_at_call 119; refine (rfreed_is F (F.with (y.vol.set (putL y.l x))) ts ws (some ⟨b, o, none⟩) a4 c c4 _ HF.out HOKG.out rfl HTS.out HGV.out HRF.out HLF.out HRR.out HLG.out).mono ?_; rintro e w6 ⟨vv, rfl, hs4, hb4⟩; have HG4 := Lib.hid (HG.out.later hb4); have HX4 := Lib.hid (HX.out.later hb4); have t0 := HX4.out.c0; have t1 := HX4.out.c1; have r0 := HG4.out.rg.r0; have r1 := HG4.out.rg.r1; have f0 := HG4.out.rg.f0; have f1 := HG4.out.rg.f1))
    all_goals
      have HFR7 := Lib.hid (HFR6.out.keep hb4)
      have HS4 := Lib.hid (fam2_own (u := .int .i64 F.N) (v := .slice a4 ws.length c4) hs4 HG.out.rg.lt)
      clear hs4 hb4
      go_wp2_with fail
      obtain ⟨j0, j1⟩ := HG4.out.rg.cells (u := .int .i64 F.N) (v := .slice a4 ws.length c4)
      (try simp only [Exit.inBlock, Exit.then])
      refine bodyPost_ret (v := .tuple #[.agg #[.int .i64 F.N, .slice a4 ws.length c4], vv, .int .i64 0]) (by first | (rw [results_cell_tmp rfl]; go_simp; done) | (rw [results_cell_tmp2 rfl]; go_simp; done) | (rw [results_cell_one rfl]; go_simp; done)) rfl ?_
      exact ⟨_, _, rfl, HG4.out.rg.bx HFR7.out, HS4.out.mono HG.out.rg.bel.size, HG4.out.rg.below⟩
end Go.Proofs.YtpakjddfnhnndaaGreat
