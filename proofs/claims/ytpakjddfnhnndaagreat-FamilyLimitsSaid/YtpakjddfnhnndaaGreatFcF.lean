/-
  tegularef36: Create, Clone.
  Conditions: as each theorem says.
-/
import Derived.Test.YtpakjddfnhnndaaGreatFcD
import Derived.Test.YtpakjddfnhnndaaGreatFaM
namespace Go.Proofs.YtpakjddfnhnndaaGreat
set_option linter.unusedSimpArgs false
set_option linter.unusedVariables false
set_option maxRecDepth 100000
open Go.RowKit Go.Maps

/-- The head of a method of the reference's family with a result of that type. -/
structure GH (w W : World) (a : Option Addr) (n : Int) (m c R : Nat) : Prop where
  b0 : W.cell? ⟨w.heap.size, 0, none⟩ = some (.int .i64 n)
  b1 : W.cell? ⟨w.heap.size, 1, none⟩ = some (.slice a m c)
  rg : RG w W R
theorem GH.later {w W W' : World} {a : Option Addr} {n : Int} {m c R : Nat} (h : GH w W a n m c R) (hb : Below W.heap.size W W') : GH w W' a n m c R :=
  ⟨hb.keep h.b0, hb.keep h.b1, h.rg.later hb⟩
theorem GH.init (w : World) (a : Option Addr) (n : Int) (m c : Nat) : GH w ((w.alloc (.cells #[.int .i64 n, .slice a m c] 45)).alloc (.cells #[.int .i64 0, .slice none 0 0] 45)) a n m c (w.heap.size + 1) := by
  have h := RG.new w (w.alloc (.cells #[.int .i64 n, .slice a m c] 45)) 45 ((Below.refl _ _).onAlloc _)
  rw [show (w.alloc (.cells #[.int .i64 n, .slice a m c] 45)).heap.size = w.heap.size + 1 by simp] at h
  have k : ∀ i, ((w.alloc (.cells #[.int .i64 n, .slice a m c] 45)).alloc (.cells #[.int .i64 0, .slice none 0 0] 45)).cell? ⟨w.heap.size, i, none⟩ = (w.alloc (.cells #[.int .i64 n, .slice a m c] 45)).cell? ⟨w.heap.size, i, none⟩ := fun i => World.cell?_alloc_lt _ _ _ (by simp)
  exact ⟨(k 0).trans (by simp), (k 1).trans (by simp), h⟩
theorem rat_r (N : Int) (ts : List RT) (nm : List UInt8) (a : Option Addr) (c : Nat) (w : World) (hr : RdR w a ts) (r : Int) (h : atC ts nm = r) :
    Calls Tryz.prog 31 #[.agg #[.int .i64 N, .slice a ts.length c], nmV nm] w fun e w' => e = .returned (.int .i64 r) ∧ Below w.heap.size w w' := by
  subst h
  exact rat_is N ts nm a c w hr
theorem rname_is (nm : List UInt8) (w : World) (hn : nm.length ≤ maxLen) (b : Bool) (h : nameB nm = b) : Calls Tryz.prog 97 #[nmV nm] w fun e w' => e = .returned (.bool b) ∧ Below w.heap.size w w' := by
  subst h
  exact rname_any nm w hn
theorem famR_with {F : Fam} {ts : List RT} {v : RT} {w : World} {a : Option Addr} {c : Nat} (hF : F.ok) (h : ts.map RT.vol = F.vs) (hr : RdR w a (withR ts v)) (hl : ListsR w ts) (hv : Rd w v.a v.l) (hc : (withR ts v).length ≤ c) :
    FamR w (.agg #[.int .i64 F.N, .slice a (withR ts v).length c]) ⟨F.N, putV F.vs v.vol⟩ :=
  ⟨a, c, withR ts v, rfl, hr, fun x hx => (mem_withR hx).elim (fun e => by rw [e]; exact hv) (hl x), by rw [withR_vol ts v (ts_sorted hF h), h], hc⟩
theorem rd_nil (w : World) : Rd w none [] := ⟨by simp, .inl rfl⟩
set_option maxHeartbeats 8000000 in
theorem rcreate_is (F : Fam) (gv : Value) (nm : List UInt8) (n r : Int) (w : World) (hF : F.ok) (h : FamR w gv F) (hnm : nm.length ≤ maxLen) :
    Calls Tryz.prog 57 #[gv, nmV nm, .int .i64 n, .int .i64 r] w (RNew w (createF F nm n r).1 (createF F nm n r).2) := by
  obtain ⟨a, c, ts, rfl, hr, hl, hts, _⟩ := h
  have h32 := (fit_len hF hts).2
  have HLEN := Lib.hid (fit_len hF hts).1
  have HH := Lib.hid (GH.init w a F.N ts.length c)
  have HR := Lib.hid hr
  have HL := Lib.hid hl
  have HTS := Lib.hid hts
  have HF := Lib.hid hF
  clear hr hl hts hF
  cases hnb : nameB nm
  · rw [show createF F nm n r = (zeroF, 1) by simp [createF, hnb]]
    have HN := Lib.hid hnb
    clear hnb
    go_enter Tryz.func57, Tryz.ntmps57
    go_wp2_with fail
    refine (rname_is nm _ hnm false HN.out).mono ?_
    rintro e w1 ⟨rfl, hb⟩
    have HH := Lib.hid (HH.out.later hb)
    clear hb
    have b0 := HH.out.b0
    have b1 := HH.out.b1
    have r0 := HH.out.rg.r0
    have r1 := HH.out.rg.r1
    have f0 := HH.out.rg.f0
    have f1 := HH.out.rg.f1
    go_wp2_with fail
    obtain ⟨j0, j1⟩ := HH.out.rg.cells (u := .int .i64 0) (v := .slice none 0 0)
    (try simp only [Exit.inBlock, Exit.then])
    refine bodyPost_ret (v := .tuple #[.agg #[.int .i64 0, .slice none 0 0], .int .i64 1]) (by first | (rw [results_cell_tmp rfl]; go_simp; done) | (rw [results_cell_tmp2 rfl]; go_simp; done) | (rw [results_cell_one rfl]; go_simp; done)) rfl ?_
    exact ⟨_, rfl, FamR.empty _ 0, HH.out.rg.below⟩
  · cases hnn : numB n r
    · rw [show createF F nm n r = (zeroF, 1) by simp [createF, hnn]]
      have hq : ¬ (1 ≤ n ∧ n ≤ 65536 ∧ 0 ≤ r ∧ r ≤ n) := of_decide_eq_false hnn
      have HQ := Lib.hid hq
      have HN := Lib.hid hnb
      clear hnb hnn hq
      go_enter Tryz.func57, Tryz.ntmps57
      go_wp2_with fail
      refine (rname_is nm _ hnm true HN.out).mono ?_
      rintro e w1 ⟨rfl, hb⟩
      have HH := Lib.hid (HH.out.later hb)
      clear hb
      have b0 := HH.out.b0
      have b1 := HH.out.b1
      have r0 := HH.out.rg.r0
      have r1 := HH.out.rg.r1
      have f0 := HH.out.rg.f0
      have f1 := HH.out.rg.f1
      go_wp2_with fail
      all_goals first
        | (exfalso; have := HQ.out; omega)
        | (obtain ⟨j0, j1⟩ := HH.out.rg.cells (u := .int .i64 0) (v := .slice none 0 0)
           (try simp only [Exit.inBlock, Exit.then])
           refine bodyPost_ret (v := .tuple #[.agg #[.int .i64 0, .slice none 0 0], .int .i64 1]) (by first | (rw [results_cell_tmp rfl]; go_simp; done) | (rw [results_cell_tmp2 rfl]; go_simp; done) | (rw [results_cell_one rfl]; go_simp; done)) rfl ?_
           exact ⟨_, rfl, FamR.empty _ 0, HH.out.rg.below⟩)
    · obtain ⟨q1, q2, q3, q4⟩ : 1 ≤ n ∧ n ≤ 65536 ∧ 0 ≤ r ∧ r ≤ n := of_decide_eq_true hnn
      have HN := Lib.hid hnb
      cases hg : getV F.vs nm with
      | some v =>
        rw [show createF F nm n r = (zeroF, 10) by simp [createF, hnb, hnn, hg]]
        obtain ⟨k, hk, hat, _, _⟩ := at_some HTS.out hg
        have HAT := Lib.hid hat
        clear hnb hnn hg hat
        go_enter Tryz.func57, Tryz.ntmps57
        go_wp2_with fail
        refine (rname_is nm _ hnm true HN.out).mono ?_
        rintro e w1 ⟨rfl, hb⟩
        have HH := Lib.hid (HH.out.later hb)
        clear hb
        have b0 := HH.out.b0
        have b1 := HH.out.b1
        go_wp2_with fail
        refine (rat_r F.N ts nm a c _ (HR.out.keep HH.out.rg.bel) _ HAT.out).mono ?_
        rintro e w2 ⟨rfl, hb⟩
        have HH := Lib.hid (HH.out.later hb)
        clear hb
        clear b0 b1
        have b0 := HH.out.b0
        have b1 := HH.out.b1
        have r0 := HH.out.rg.r0
        have r1 := HH.out.rg.r1
        have f0 := HH.out.rg.f0
        have f1 := HH.out.rg.f1
        go_wp2_with fail
        obtain ⟨j0, j1⟩ := HH.out.rg.cells (u := .int .i64 0) (v := .slice none 0 0)
        (try simp only [Exit.inBlock, Exit.then])
        refine bodyPost_ret (v := .tuple #[.agg #[.int .i64 0, .slice none 0 0], .int .i64 10]) (by first | (rw [results_cell_tmp rfl]; go_simp; done) | (rw [results_cell_tmp2 rfl]; go_simp; done) | (rw [results_cell_one rfl]; go_simp; done)) rfl ?_
        exact ⟨_, rfl, FamR.empty _ 0, HH.out.rg.below⟩
      | none =>
        have HAT := Lib.hid (at_none HTS.out hg)
        by_cases h32' : 32 ≤ F.vs.length
        · rw [show createF F nm n r = (zeroF, 7) by simp [createF, hnb, hnn, hg, h32']]
          have hl32 : 32 ≤ ts.length := by have := HLEN.out; omega
          clear hnb hnn hg
          go_enter Tryz.func57, Tryz.ntmps57
          go_wp2_with fail
          refine (rname_is nm _ hnm true HN.out).mono ?_
          rintro e w1 ⟨rfl, hb⟩
          have HH := Lib.hid (HH.out.later hb)
          clear hb
          have b0 := HH.out.b0
          have b1 := HH.out.b1
          go_wp2_with fail
          refine (rat_r F.N ts nm a c _ (HR.out.keep HH.out.rg.bel) _ HAT.out).mono ?_
          rintro e w2 ⟨rfl, hb⟩
          have HH := Lib.hid (HH.out.later hb)
          clear hb
          clear b0 b1
          have b0 := HH.out.b0
          have b1 := HH.out.b1
          have r0 := HH.out.rg.r0
          have r1 := HH.out.rg.r1
          have f0 := HH.out.rg.f0
          have f1 := HH.out.rg.f1
          go_wp2_with fail
          obtain ⟨j0, j1⟩ := HH.out.rg.cells (u := .int .i64 0) (v := .slice none 0 0)
          (try simp only [Exit.inBlock, Exit.then])
          refine bodyPost_ret (v := .tuple #[.agg #[.int .i64 0, .slice none 0 0], .int .i64 7]) (by first | (rw [results_cell_tmp rfl]; go_simp; done) | (rw [results_cell_tmp2 rfl]; go_simp; done) | (rw [results_cell_one rfl]; go_simp; done)) rfl ?_
          exact ⟨_, rfl, FamR.empty _ 0, HH.out.rg.below⟩
        · rw [show createF F nm n r = (⟨F.N, putV F.vs ⟨nm, n, r, []⟩⟩, 0) by simp [createF, hnb, hnn, hg, h32']]
          have hl32 : ts.length < 32 := by have := HLEN.out; omega
          clear hnb hnn hg
          go_enter Tryz.func57, Tryz.ntmps57
          go_wp2_with fail
          refine (rname_is nm _ hnm true HN.out).mono ?_
          rintro e w1 ⟨rfl, hb⟩
          have HH := Lib.hid (HH.out.later hb)
          clear hb
          have b0 := HH.out.b0
          have b1 := HH.out.b1
          go_wp2_with fail
          refine (rat_r F.N ts nm a c _ (HR.out.keep HH.out.rg.bel) _ HAT.out).mono ?_
          rintro e w2 ⟨rfl, hb⟩
          have HH := Lib.hid (HH.out.later hb)
          clear hb
          clear b0 b1
          have b0 := HH.out.b0
          have b1 := HH.out.b1
          go_wp2_with fail
          refine (rwith_is F.N ts ⟨nm, n, r, none, 0, []⟩ a c _ (HR.out.keep HH.out.rg.bel) (by omega)).mono ?_
          rintro e w3 ⟨a3, c3, rfl, hr3, hc3, hb⟩
          have HFR := Lib.hid (famR_with (c := c3) HF.out HTS.out hr3 (HL.out.keep (HH.out.rg.bel.on hb)) (rd_nil _) hc3)
          have HH := Lib.hid (HH.out.later hb)
          clear hb
          clear b0 b1 hr3 hc3
          have b0 := HH.out.b0
          have b1 := HH.out.b1
          have r0 := HH.out.rg.r0
          have r1 := HH.out.rg.r1
          have f0 := HH.out.rg.f0
          have f1 := HH.out.rg.f1
          go_wp2_with fail
          obtain ⟨j0, j1⟩ := HH.out.rg.cells (u := .int .i64 F.N) (v := .slice a3 (withR ts ⟨nm, n, r, none, 0, []⟩).length c3)
          (try simp only [Exit.inBlock, Exit.then])
          refine bodyPost_ret (v := .tuple #[.agg #[.int .i64 F.N, .slice a3 (withR ts ⟨nm, n, r, none, 0, []⟩).length c3], .int .i64 0]) (by first | (rw [results_cell_tmp rfl]; go_simp; done) | (rw [results_cell_tmp2 rfl]; go_simp; done) | (rw [results_cell_one rfl]; go_simp; done)) rfl ?_
          exact ⟨_, rfl, HH.out.rg.bx HFR.out, HH.out.rg.below⟩
end Go.Proofs.YtpakjddfnhnndaaGreat
