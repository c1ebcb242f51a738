/-
  tegularef36: Counts.
  Conditions: as each theorem says.
-/
import Derived.Test.YtpakjddfnhnndaaGreatGR
import Derived.Test.YtpakjddfnhnndaaGreatGG
namespace Go.Proofs.YtpakjddfnhnndaaGreat
set_option linter.unusedSimpArgs false
set_option linter.unusedVariables false
set_option maxRecDepth 100000
open Go.RowKit

/-- What a family of the reference needs for its counts. -/
structure FitR (N : Nat) (ts : List RT) : Prop where
  hN : N ≤ 65536
  few : ts.length ≤ 33
  perm : ∀ x ∈ ts, permB N x.l = true
  wf : ∀ x ∈ ts, wfL x.l
  short : ∀ x ∈ ts, x.l.length ≤ 65536
abbrev cntsR (N : Nat) (ts : List RT) : List Int := cntsV N (ts.map RT.vol)
theorem cntsR_take (N : Nat) (ts : List RT) (k : Nat) (h : k < ts.length) : cntsR N (ts.take (k + 1)) = chgL (cntsR N (ts.take k)) ts[k].l 1 := by
  have := cntsV_take N (ts.map RT.vol) k (by simpa using h)
  rw [← List.map_take, ← List.map_take] at this
  refine (show cntsR N (ts.take (k + 1)) = _ from this).trans ?_
  rw [List.getElem_map]
  rfl
theorem FitR.range {N : Nat} {ts : List RT} (h : FitR N ts) (k : Nat) : inR 0 1000000000 (cntsR N (ts.take k)) := by
  have h0 : (List.replicate N (0 : Int)).length = N := by simp
  have : ∀ k, k ≤ ts.length → inR 0 (65536 * k) (cntsR N (ts.take k)) := by
    intro k
    induction k with
    | zero => intro _; simp only [cntsR, List.take_zero, List.map_nil, cntsV, List.foldl_nil]; intro x hx; rw [List.mem_replicate] at hx; omega
    | succ k ih =>
      intro hk
      rw [cntsR_take N ts k (by omega)]
      have h1 := chg_up (C := cntsR N (ts.take k)) (l := ts[k].l) (by rw [cntsV_length]; exact h.perm _ (List.getElem_mem (by omega))) (ih (by omega))
      have := h.short _ (List.getElem_mem (show k < ts.length by omega))
      exact inR_mono h1 (by omega) (by omega)
  have hf := h.few
  by_cases hk : k ≤ ts.length
  · exact inR_mono (this k hk) (by omega) (by omega)
  · rw [List.take_of_length_le (by omega), ← List.take_length (l := ts)]
    exact inR_mono (this ts.length (Nat.le_refl _)) (by omega) (by omega)
set_option maxHeartbeats 4000000 in
theorem rcounts_is (N : Nat) (ts : List RT) (a : Option Addr) (c : Nat) (w : World) (hr : RdR w a ts) (hl : ListsR w ts) (hf : FitR N ts) :
    Calls Tryz.prog 80 #[.agg #[.int .i64 N, .slice a ts.length c]] w fun e w' => ∃ v, e = .returned v ∧ OwnI w' w.heap.size v (cntsR N ts) ∧ Below w.heap.size w w' := by
  have hlen := hr.1
  have hb := (Below.refl w.heap.size w).onAlloc (.cells #[.int .i64 N, .slice a ts.length c] 45)
  have HB := Lib.hid hb
  have HR := Lib.hid (hr.keep hb)
  have HL := Lib.hid (hl.keep hb)
  have HF := Lib.hid hf
  clear hb hr hl hf
  go_enter Tryz.func80, Tryz.ntmps80
  go_wp2_with fail
  refine (rnew_yes N _ HF.out.hN).mono ?_
  rintro e w1 ⟨v, rfl, ho, hb1⟩
  obtain ⟨a1, c1, rfl, _⟩ := ho.rd (by simpa using HF.out.hN)
  have HO := Lib.hid ho
  have hB1 := HB.out.on hb1
  have HB1 := Lib.hid hB1
  have HC : Hid (w1.cell? ⟨w.heap.size, 1, none⟩ = some (.slice a ts.length c)) := Lib.hid (hb1.keep (by simp))
  have HR1 := Lib.hid (HR.out.keep hb1)
  have HL1 := Lib.hid (HL.out.keep hb1)
  clear ho hb1 hB1 HR HL HB
  go_wp2_with fail
  have HTK := Lib.hid (cntsR_take N ts)
  have h0 : OwnI w1 w.heap.size (.slice a1 N c1) (cntsR N (ts.take 0)) := by
    have h9 := HO.out
    rw [List.length_replicate] at h9
    exact h9.mono (by simp)
  have HL0 := Lib.hid (show ∀ k, (cntsR N (ts.take k)).length = N from fun k => cntsV_length _ _)
  go_loopw [3, 5] (fun v i wr => ∃ k : Nat, k ≤ ts.length ∧ i = .int .i64 k ∧ OwnI wr w.heap.size v (cntsR N (ts.take k)) ∧ Below w1.heap.size w1 wr) (fun _ i _ => ts.length - (intOf i).toNat)
  case atStart => exact ⟨0, Nat.zero_le _, rfl, h0, Below.refl _ _⟩
  case round =>
    obtain ⟨k, hk, rfl, hn, hB⟩ := hrel
    have q1 := hB.keep HC.out
    have HN := Lib.hid hn
    have HBB := Lib.hid hB
    by_cases hlt : k < ts.length
    · obtain ⟨b, o, rfl, hat⟩ := (HR1.out.keep hB).at (by omega)
      have h1 := (hat k _ (List.getElem?_eq_getElem hlt)).c3
      have hm := List.getElem_mem hlt
      obtain ⟨a3, c3, rfl, hr3⟩ := hn.rd (by rw [HL0.out]; exact HF.out.hN)
      have hAD := radd_yes (cntsR N (ts.take k)) ts[k].l a3 ts[k].a c3 ts[k].c wr hr3 ((HL1.out.keep hB) _ hm) (HF.out.wf _ hm) (by rw [HL0.out]; exact HF.out.perm _ hm) (HF.out.range k) (by have := HF.out.short _ hm; omega)
      rw [← HTK.out k hlt] at hAD
      have HAD := Lib.hid hAD
      generalize ts[k] = x at *
      clear hat hm hr3 hAD hn hB h0
      go_wp2_with fail
      refine HAD.out.mono ?_
      rintro e w3 ⟨v3, rfl, ho3, hb3⟩
      have HQ := Lib.hid (ho3.mono (HB1.out.on HBB.out).size)
      have HBB3 := Lib.hid (HBB.out.on hb3)
      clear ho3 hb3
      go_wp2_with fail
      go_roundw
      case rel => exact ⟨k + 1, by omega, by go_num, HQ.out, HBB3.out⟩
      case measure => simp [intOf]; omega
    · obtain rfl : k = ts.length := by omega
      rw [List.take_length] at HN
      clear hn hB h0
      go_wp2
      go_ret
      exact ⟨_, rfl, HN.out, HB1.out.on HBB.out⟩
end Go.Proofs.YtpakjddfnhnndaaGreat
