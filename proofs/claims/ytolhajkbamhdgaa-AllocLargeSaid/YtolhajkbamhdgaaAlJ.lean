/-
  package alloc: Take.
  Conditions: as each theorem says.
-/
import Derived.Test.YtolhajkbamhdgaaAlF
import Derived.Test.YtolhajkbamhdgaaAlI
import Derived.Test.YtolhajkbamhdgaaAlT
namespace Go.Proofs.Ytolhajkbamhdgaa
set_option linter.unusedSimpArgs false
set_option linter.unusedVariables false
open Go.RowKit

set_option maxRecDepth 100000 in
set_option maxHeartbeats 1000000 in
theorem atake_arg (N : Nat) (R : List E) (n h : Int) (a : Option Addr) (c : Nat) (w : World) (hN : N ≤ 65536) (hbad : askB N n h = false) :
    Calls Try.prog 35 #[.agg #[.int .i64 N, .slice a R.length c], .int .i64 n, .int .i64 h] w fun e w' => e = .returned (.tuple #[.slice none 0 0, .agg #[.int .i64 0, .slice none 0 0], .int .i64 1]) ∧ Below w.heap.size w w' := by
  have hb : ¬ (0 ≤ n ∧ 0 ≤ h ∧ h ≤ N) := fun hc => by rw [(askB_iff _ _ _).2 hc] at hbad; cases hbad
  have HS := Lib.hid (MarkS.start w N a R.length c 58)
  have r0 := HS.out.r0
  have r1 := HS.out.r1
  have f0 := HS.out.f0
  have f1 := HS.out.f1
  have b0 := HS.out.b0
  have b1 := HS.out.b1
  clear hbad
  by_cases h1 : n < 0
  · go_enter Try.func35, Try.ntmps35
    go_wp2_with fail
    refine bodyPost_ret (v := .tuple #[.slice none 0 0, .agg #[.int .i64 0, .slice none 0 0], .int .i64 1]) ?_ rfl ⟨rfl, ?_⟩
    · simp [results, Try.results35, go_sem]
    · (repeat (first | exact Below.refl _ _ | assumption | refine Below.onNext ?_ _ | refine Below.onAlloc ?_ _ | refine Below.setCell ?_ (by simp) _ | refine Below.drew ?_))
  · by_cases h2 : h < 0
    · go_enter Try.func35, Try.ntmps35
      go_wp2_with fail
      refine bodyPost_ret (v := .tuple #[.slice none 0 0, .agg #[.int .i64 0, .slice none 0 0], .int .i64 1]) ?_ rfl ⟨rfl, ?_⟩
      · simp [results, Try.results35, go_sem]
      · (repeat (first | exact Below.refl _ _ | assumption | refine Below.onNext ?_ _ | refine Below.onAlloc ?_ _ | refine Below.setCell ?_ (by simp) _ | refine Below.drew ?_))
    · have h3 : (N : Int) < h := by omega
      go_enter Try.func35, Try.ntmps35
      go_wp2_with fail
      refine bodyPost_ret (v := .tuple #[.slice none 0 0, .agg #[.int .i64 0, .slice none 0 0], .int .i64 1]) ?_ rfl ⟨rfl, ?_⟩
      · simp [results, Try.results35, go_sem]
      · (repeat (first | exact Below.refl _ _ | assumption | refine Below.onNext ?_ _ | refine Below.onAlloc ?_ _ | refine Below.setCell ?_ (by simp) _ | refine Below.drew ?_))
theorem afree_is (N : Int) (R : List E) (z : Int) (a : Option Addr) (c : Nat) (w : World) (hz : lenL R = z) (hr : Rd w a R) (hc : Canon R) :
    Calls Try.prog 37 #[.agg #[.int .i64 N, .slice a R.length c]] w fun e w' => e = .returned (.int .i64 z) ∧ Below w.heap.size w w' := by
  subst hz
  exact afree_any N R a c w hr hc
set_option maxRecDepth 100000 in
set_option maxHeartbeats 1000000 in
theorem atake_space (N : Nat) (R : List E) (n h : Int) (a : Option Addr) (c : Nat) (w : World) (hN : N ≤ 65536) (hr : Rd w a R) (hC : Canon R) (hok : askB N n h = true) (hf : lenL R < n) :
    Calls Try.prog 35 #[.agg #[.int .i64 N, .slice a R.length c], .int .i64 n, .int .i64 h] w fun e w' => e = .returned (.tuple #[.slice none 0 0, .agg #[.int .i64 0, .slice none 0 0], .int .i64 11]) ∧ Below w.heap.size w w' := by
  obtain ⟨h1, h2, h3⟩ := (askB_iff _ _ _).1 hok
  have HS := Lib.hid (MarkS.start w N a R.length c 58)
  have hk := ((Below.refl w.heap.size w).onAlloc (.cells #[.int .i64 N, .slice a R.length c] 58)).onAlloc (.cells #[.int .i64 0, .slice none 0 0] 58)
  have HR := Lib.hid (hr.keep hk)
  have HC := Lib.hid hC
  clear hok hr hC hk
  generalize hz : lenL R = z at *
  have HZ := Lib.hid hz
  clear hz
  have b0 := HS.out.b0
  have b1 := HS.out.b1
  go_enter Try.func35, Try.ntmps35
  go_wp2_with fail
  refine (afree_is N R z a c _ HZ.out HR.out HC.out).mono ?_
  rintro e w2 ⟨rfl, hb2⟩
  have HS := Lib.hid (HS.out.later hb2)
  clear hb2 b0 b1
  have r0 := HS.out.r0
  have r1 := HS.out.r1
  have f0 := HS.out.f0
  have f1 := HS.out.f1
  have b0 := HS.out.b0
  have b1 := HS.out.b1
  go_wp2_with fail
  refine bodyPost_ret (v := .tuple #[.slice none 0 0, .agg #[.int .i64 0, .slice none 0 0], .int .i64 11]) ?_ rfl ⟨rfl, ?_⟩
  · simp [results, Try.results35, go_sem, r0, r1, f0, f1]
  · exact (HS.out.B.setCell (by simp) _).setCell (by simp) _
set_option maxRecDepth 100000 in
set_option maxHeartbeats 1000000 in
theorem atake_zero (N : Nat) (R : List E) (h : Int) (a : Option Addr) (c : Nat) (w : World) (hN : N ≤ 65536) (hr : Rd w a R) (hC : Canon R) (hok : askB N 0 h = true) :
    Calls Try.prog 35 #[.agg #[.int .i64 N, .slice a R.length c], .int .i64 0, .int .i64 h] w fun e w' => e = .returned (.tuple #[.slice none 0 0, .agg #[.int .i64 N, .slice a R.length c], .int .i64 0]) ∧ Below w.heap.size w w' := by
  obtain ⟨h1, h2, h3⟩ := (askB_iff _ _ _).1 hok
  have HS := Lib.hid (MarkS.start w N a R.length c 58)
  have hk := ((Below.refl w.heap.size w).onAlloc (.cells #[.int .i64 N, .slice a R.length c] 58)).onAlloc (.cells #[.int .i64 0, .slice none 0 0] 58)
  have HR := Lib.hid (hr.keep hk)
  have HC := Lib.hid hC
  have hz0 := lenL_nonneg hC
  clear hok hr hC hk
  generalize hz : lenL R = z at *
  have HZ := Lib.hid hz
  clear hz
  have b0 := HS.out.b0
  have b1 := HS.out.b1
  go_enter Try.func35, Try.ntmps35
  go_wp2_with fail
  refine (afree_is N R z a c _ HZ.out HR.out HC.out).mono ?_
  rintro e w2 ⟨rfl, hb2⟩
  have HS := Lib.hid (HS.out.later hb2)
  clear hb2 b0 b1
  have r0 := HS.out.r0
  have r1 := HS.out.r1
  have f0 := HS.out.f0
  have f1 := HS.out.f1
  have b0 := HS.out.b0
  have b1 := HS.out.b1
  go_wp2_with fail
  go_region
  all_goals
    go_wp2_with fail
    refine bodyPost_ret (v := .tuple #[.slice none 0 0, .agg #[.int .i64 N, .slice a R.length c], .int .i64 0]) ?_ rfl ⟨rfl, ?_⟩
    · simp [results, Try.results35, go_sem, r0, r1, f0, f1]
    · exact (HS.out.B.drew.setCell (by simp) _).setCell (by simp) _
theorem chgM_nil (M : List Bool) (u : Bool) : chgM M [] u = M := by
  unfold chgM
  apply List.ext_getElem
  · simp [mk]
  · intro i h1 h2
    simp [mk, listF]
    rw [List.getElem?_eq_getElem h2]
    rfl
theorem pieces_same (M : List Bool) (n h : Nat) : piecesR (freeR M) n h = piecesL M n h := rfl
/-- What Take returns. -/
def ATook (M : List Bool) (n h : Nat) (a : Option Addr) (w : World) (e : Ending) (w' : World) : Prop :=
  ∃ v1 v2, e = .returned (.tuple #[v1, .agg #[.int .i64 M.length, v2], .int .i64 0]) ∧ OwnE w' w.heap.size v1 (takeL M n h) ∧ NewRuns w w' a (freeR M) (freeR (chgM M (takeL M n h) true)) v2 ∧ Below w.heap.size w w'
/-- Which ways have been tried. -/
def TakeI (M : List Bool) (n h : Nat) (w2 : World) (v : Value) (wr : World) : Prop :=
  (v = .int .i64 0 ∨ (v = .int .i64 1 ∧ fitS (fromL (freeR M) h) n = none) ∨ (v = .int .i64 2 ∧ fitS (fromL (freeR M) h) n = none ∧ fitS (freeR M) n = none)) ∧ Below w2.heap.size w2 wr
theorem took_end {M : List Bool} {n h : Nat} {a a3 a4 : Option Addr} {c3 c4 : Nat} {w w4 : World} {R4 : List E} {t : TypeId} (hR : freeR (chgM M (takeL M n h) true) = R4) (hB : Below w.heap.size w w4) (ho : OwnE w4 (w.heap.size + 2) (.slice a3 (takeL M n h).length c3) (takeL M n h))
    (hr : Rd w4 a4 R4) (hA : Away (R4 = []) a4 (w.heap.size + 1)) (hF : Fresh (freeR M = []) (R4 = []) w.heap.size a a4) :
    ATook M n h a w (Ending.returned (Value.tuple #[.slice a3 (takeL M n h).length c3, .agg #[.int .i64 M.length, .slice a4 R4.length c4], .int .i64 0]))
      (((w4.alloc (.cells #[.int .i64 M.length, .slice a4 R4.length c4] t)).setCell ⟨w.heap.size + 1, 0, none⟩ (.int .i64 M.length)).setCell ⟨w.heap.size + 1, 1, none⟩ (.slice a4 R4.length c4)).drew := by
  subst hR
  have hk := (Below.refl w4.heap.size w4).onAlloc (.cells #[.int .i64 M.length, .slice a4 (freeR (chgM M (takeL M n h) true)).length c4] t)
  have hne : (Value.slice a3 (takeL M n h).length c3).ownBlock ≠ some (w.heap.size + 1) := fun e => by have := (ho.lt _ e).1; omega
  refine ⟨_, _, rfl, ?_, ⟨a4, c4, rfl, ?_, hF⟩, ?_⟩
  · exact ((((ho.keep hk).away ⟨w.heap.size + 1, 0, none⟩ _ hne).away ⟨w.heap.size + 1, 1, none⟩ _ hne).keep (Below.refl _ _).drew).mono (by omega)
  · exact (((hr.keep hk).cell_ne (w.heap.size + 1) 0 _ hA).cell_ne (w.heap.size + 1) 1 _ hA).keep (Below.refl _ _).drew
  · exact (((hB.onAlloc _).setCell (by simp) _).setCell (by simp) _).drew
set_option maxRecDepth 100000 in
set_option maxHeartbeats 4000000 in
theorem atake_yes (M : List Bool) (n h : Nat) (a : Option Addr) (c : Nat) (w : World) (hr : Rd w a (freeR M)) (hN : M.length ≤ 65536) (hh : h ≤ M.length) (hn : 1 ≤ n) (hf : n ≤ area (freeF M) M.length) :
    Calls Try.prog 35 #[.agg #[.int .i64 M.length, .slice a (freeR M).length c], .int .i64 n, .int .i64 h] w (ATook M n h a w) := by
  have hn' : n ≤ 65536 := by have := area_le (freeF M) M.length; omega
  have HS := Lib.hid (MarkS.start w M.length a (freeR M).length c 58)
  have hk := ((Below.refl w.heap.size w).onAlloc (.cells #[.int .i64 M.length, .slice a (freeR M).length c] 58)).onAlloc (.cells #[.int .i64 0, .slice none 0 0] 58)
  have HR := Lib.hid (hr.keep hk)
  have HC := Lib.hid (freeR_canon M)
  have HNA := Lib.hid hr.lt
  have HT := Lib.hid (taken_is hN (n := n) (h := h) hf)
  have HTB := Lib.hid (fun s => takeL_behind M n h s hn)
  have HTA := Lib.hid (fun s => takeL_any M n h s hn)
  have HTP := Lib.hid (takeL_pieces M n h hn)
  have HZ := Lib.hid (lenL_free M hN)
  obtain ⟨hw, hlen⟩ := takeL_wf hN (n := n) (h := h) hf
  have HW := Lib.hid hw
  have d0 : ((n : Int) == 0) = false := by simp; omega
  have i0 : ∀ w, (Instr.index 98 (.agg #[.func (.func 67) #[] #[], .func (.func 68) #[] #[], .func (.func 69) #[] #[]]) (.int .i64 0)).run Try.prog w = .ok (.func (.func 67) #[] #[]) w := fun _ => by kernel_rfl
  have i1 : ∀ w, (Instr.index 98 (.agg #[.func (.func 67) #[] #[], .func (.func 68) #[] #[], .func (.func 69) #[] #[]]) (.int .i64 1)).run Try.prog w = .ok (.func (.func 68) #[] #[]) w := fun _ => by kernel_rfl
  have i2 : ∀ w, (Instr.index 98 (.agg #[.func (.func 67) #[] #[], .func (.func 68) #[] #[], .func (.func 69) #[] #[]]) (.int .i64 2)).run Try.prog w = .ok (.func (.func 69) #[] #[]) w := fun _ => by kernel_rfl
  clear hr hk hw
  generalize hz : area (freeF M) M.length = z at *
  have HZZ := Lib.hid hz
  clear hz
  have b0 := HS.out.b0
  have b1 := HS.out.b1
  have e1 : decide (z < n) = false := decide_eq_false (by omega)
  have e2 : decide ((n : Int) < 0) = false := decide_eq_false (by omega)
  have e3 : decide ((h : Int) < 0) = false := decide_eq_false (by omega)
  go_enter Try.func35, Try.ntmps35
  go_wp2_with fail
  refine (afree_is M.length (freeR M) z a c _ HZ.out HR.out HC.out).mono ?_
  rintro e w2 ⟨rfl, hb2⟩
  have HS := Lib.hid (HS.out.later hb2)
  have HR := Lib.hid (HR.out.keep hb2)
  clear hb2 b0 b1
  have r0 := HS.out.r0
  have r1 := HS.out.r1
  have f0 := HS.out.f0
  have f1 := HS.out.f1
  have b0 := HS.out.b0
  have b1 := HS.out.b1
  go_wp2_with fail
  have HAW : Hid (Away (freeR M = []) a (w.heap.size + 1)) := Lib.hid (by
    rcases HNA.out with h1 | h1
    · exact .inl h1
    · exact .inr fun b o e => by have := h1 b o e; omega)
  have HR2 := HR
  have HS2 := HS
  clear HR HS r0 r1 f0 f1 b0 b1
  go_loopw [40] (fun i wr => TakeI M n h w2 i wr) (fun i _ => 2 - (intOf i).toNat)
  case atStart => exact ⟨.inl rfl, Below.refl _ _⟩
  case round =>
    obtain ⟨rfl | ⟨rfl, hf⟩ | ⟨rfl, hf, hg⟩, hB⟩ := hrel
    · have HS := Lib.hid (HS2.out.later hB)
      have HR := Lib.hid (HR2.out.keep hB)
      have r0 := HS.out.r0
      have r1 := HS.out.r1
      have f0 := HS.out.f0
      have f1 := HS.out.f1
      have b0 := HS.out.b0
      have b1 := HS.out.b1
      cases hf : fitS (fromL (freeR M) h) n with
      | none =>
        have HF := Lib.hid hf
        clear hf
        go_wp2_with fail
        refine (behind_no M.length (freeR M) n h a c _ HR.out HC.out (by omega) HF.out).mono ?_
        rintro e w3 ⟨rfl, hb3⟩
        have hB3 := hB.on hb3
        clear hb3
        go_wp2_with fail
        go_roundw
        case rel => exact ⟨.inr (.inl ⟨rfl, HF.out⟩), hB3⟩
        case measure => simp [intOf]
      | some s =>
        have HF := Lib.hid hf
        have HTT := Lib.hid (HTB.out s hf)
        clear hf
        go_wp2_with fail
        refine (behind_yes M.length (freeR M) n h s a c _ HR.out HC.out (by omega) (by omega) HF.out).mono ?_
        rintro e w3 ⟨v3, rfl, ho3, hb3⟩
        rw [← HTT.out] at ho3
        obtain ⟨a3, c3, rfl, _⟩ := ho3.rd (by omega)
        have HO3 := Lib.hid (ho3.mono (B' := w.heap.size + 2) (by have := World.block_lt_of_cell? _ _ r0; simp at this; omega))
        have HS3 := Lib.hid (HS.out.later hb3)
        have HR3 := Lib.hid (HR.out.keep hb3)
        clear hb3 ho3 r0 r1 f0 f1 b0 b1 HS HR HF HTT hB
        have b0 := HS3.out.b0
        have b1 := HS3.out.b1
        go_wp2_with fail
        clear b0 b1
        refine (amark_any M (takeL M n h) a a3 c c3 _ hN HR3.out (HO3.out.rd' (by omega)) HW.out (by omega)).mono ?_
        rintro e w4 hp
        obtain ⟨hb4, ⟨h1, _⟩ | ⟨_, h1, _⟩ | ⟨_, _, v4, rfl, hn4⟩⟩ := hp
        · exact absurd HT.out.range (by rw [h1]; simp)
        · exact absurd HT.out.st h1
        obtain ⟨a4, c4, rfl, hr4, hfr4⟩ := hn4
        have hsz3 : w.heap.size + 1 < w3.heap.size := by have := World.block_lt_of_cell? _ _ HS3.out.r0; simpa using this
        have HA4 := Lib.hid (hfr4.away HAW.out hsz3)
        have HF4 := Lib.hid (hfr4.mono HS3.out.B.size)
        have HS := Lib.hid (HS3.out.later hb4)
        have HO4 := Lib.hid (HO3.out.keep hb4)
        have HR4 := Lib.hid hr4
        clear hb4 hr4 hfr4 HR3 HS3 HO3 hsz3
        have r0 := HS.out.r0
        have r1 := HS.out.r1
        have f0 := HS.out.f0
        have f1 := HS.out.f1
        have b0 := HS.out.b0
        have b1 := HS.out.b1
        go_wp2_with fail
        generalize hRR : freeR (chgM M (takeL M n h) true) = R4 at *
        have HRR := Lib.hid hRR
        clear hRR
        go_region
        all_goals
          go_wp2_with fail
          refine bodyPost_ret (v := .tuple #[.slice a3 (takeL M n h).length c3, .agg #[.int .i64 M.length, .slice a4 R4.length c4], .int .i64 0]) ?_ rfl ?_
          · simp [results, Try.results35, go_sem, r0, r1, f0, f1]
          · exact took_end HRR.out HS.out.B HO4.out HR4.out HA4.out HF4.out
    · have HS := Lib.hid (HS2.out.later hB)
      have HR := Lib.hid (HR2.out.keep hB)
      have HF := Lib.hid hf
      clear hf
      have r0 := HS.out.r0
      have r1 := HS.out.r1
      have f0 := HS.out.f0
      have f1 := HS.out.f1
      have b0 := HS.out.b0
      have b1 := HS.out.b1
      cases hg : fitS (freeR M) n with
      | none =>
        have HG := Lib.hid hg
        clear hg
        go_wp2_with fail
        refine (anywhere_no M.length (freeR M) n h a c _ HR.out HG.out).mono ?_
        rintro e w3 ⟨rfl, hb3⟩
        have hB3 := hB.on hb3
        clear hb3
        go_wp2_with fail
        go_roundw
        case rel => exact ⟨.inr (.inr ⟨rfl, HF.out, HG.out⟩), hB3⟩
        case measure => simp [intOf]
      | some s =>
        have HG := Lib.hid hg
        have HTT := Lib.hid (HTA.out s HF.out hg)
        clear hg
        go_wp2_with fail
        refine (anywhere_yes M.length (freeR M) n h s a c _ HR.out HC.out (by omega) HG.out).mono ?_
        rintro e w3 ⟨v3, rfl, ho3, hb3⟩
        rw [← HTT.out] at ho3
        obtain ⟨a3, c3, rfl, _⟩ := ho3.rd (by omega)
        have HO3 := Lib.hid (ho3.mono (B' := w.heap.size + 2) (by have := World.block_lt_of_cell? _ _ r0; simp at this; omega))
        have HS3 := Lib.hid (HS.out.later hb3)
        have HR3 := Lib.hid (HR.out.keep hb3)
        clear hb3 ho3 r0 r1 f0 f1 b0 b1 HS HR HF HG HTT hB
        have b0 := HS3.out.b0
        have b1 := HS3.out.b1
        go_wp2_with fail
        clear b0 b1
        refine (amark_any M (takeL M n h) a a3 c c3 _ hN HR3.out (HO3.out.rd' (by omega)) HW.out (by omega)).mono ?_
        rintro e w4 hp
        obtain ⟨hb4, ⟨h1, _⟩ | ⟨_, h1, _⟩ | ⟨_, _, v4, rfl, hn4⟩⟩ := hp
        · exact absurd HT.out.range (by rw [h1]; simp)
        · exact absurd HT.out.st h1
        obtain ⟨a4, c4, rfl, hr4, hfr4⟩ := hn4
        have hsz3 : w.heap.size + 1 < w3.heap.size := by have := World.block_lt_of_cell? _ _ HS3.out.r0; simpa using this
        have HA4 := Lib.hid (hfr4.away HAW.out hsz3)
        have HF4 := Lib.hid (hfr4.mono HS3.out.B.size)
        have HS := Lib.hid (HS3.out.later hb4)
        have HO4 := Lib.hid (HO3.out.keep hb4)
        have HR4 := Lib.hid hr4
        clear hb4 hr4 hfr4 HR3 HS3 HO3 hsz3
        have r0 := HS.out.r0
        have r1 := HS.out.r1
        have f0 := HS.out.f0
        have f1 := HS.out.f1
        have b0 := HS.out.b0
        have b1 := HS.out.b1
        go_wp2_with fail
        generalize hRR : freeR (chgM M (takeL M n h) true) = R4 at *
        have HRR := Lib.hid hRR
        clear hRR
        go_region
        all_goals
          go_wp2_with fail
          refine bodyPost_ret (v := .tuple #[.slice a3 (takeL M n h).length c3, .agg #[.int .i64 M.length, .slice a4 R4.length c4], .int .i64 0]) ?_ rfl ?_
          · simp [results, Try.results35, go_sem, r0, r1, f0, f1]
          · exact took_end HRR.out HS.out.B HO4.out HR4.out HA4.out HF4.out
    · have HS := Lib.hid (HS2.out.later hB)
      have HR := Lib.hid (HR2.out.keep hB)
      have HTT := Lib.hid (HTP.out hf hg)
      clear hf hg
      have r0 := HS.out.r0
      have r1 := HS.out.r1
      have f0 := HS.out.f0
      have f1 := HS.out.f1
      have b0 := HS.out.b0
      have b1 := HS.out.b1
      go_wp2_with fail
      refine (pieces_any M.length (freeR M) n h a c _ HR.out HC.out (by omega) (by omega)).mono ?_
      rintro e w3 ⟨v3, rfl, ho3, hb3⟩
      rw [pieces_same, ← HTT.out] at ho3
      obtain ⟨a3, c3, rfl, _⟩ := ho3.rd (by omega)
      have HO3 := Lib.hid (ho3.mono (B' := w.heap.size + 2) (by have := World.block_lt_of_cell? _ _ r0; simp at this; omega))
      have HS3 := Lib.hid (HS.out.later hb3)
      have HR3 := Lib.hid (HR.out.keep hb3)
      clear hb3 ho3 r0 r1 f0 f1 b0 b1 HS HR HTT hB
      have b0 := HS3.out.b0
      have b1 := HS3.out.b1
      go_wp2_with fail
      clear b0 b1
      refine (amark_any M (takeL M n h) a a3 c c3 _ hN HR3.out (HO3.out.rd' (by omega)) HW.out (by omega)).mono ?_
      rintro e w4 hp
      obtain ⟨hb4, ⟨h1, _⟩ | ⟨_, h1, _⟩ | ⟨_, _, v4, rfl, hn4⟩⟩ := hp
      · exact absurd HT.out.range (by rw [h1]; simp)
      · exact absurd HT.out.st h1
      obtain ⟨a4, c4, rfl, hr4, hfr4⟩ := hn4
      have hsz3 : w.heap.size + 1 < w3.heap.size := by have := World.block_lt_of_cell? _ _ HS3.out.r0; simpa using this
      have HA4 := Lib.hid (hfr4.away HAW.out hsz3)
      have HF4 := Lib.hid (hfr4.mono HS3.out.B.size)
      have HS := Lib.hid (HS3.out.later hb4)
      have HO4 := Lib.hid (HO3.out.keep hb4)
      have HR4 := Lib.hid hr4
      clear hb4 hr4 hfr4 HR3 HS3 HO3 hsz3
      have r0 := HS.out.r0
      have r1 := HS.out.r1
      have f0 := HS.out.f0
      have f1 := HS.out.f1
      have b0 := HS.out.b0
      have b1 := HS.out.b1
      go_wp2_with fail
      generalize hRR : freeR (chgM M (takeL M n h) true) = R4 at *
      have HRR := Lib.hid hRR
      clear hRR
      go_region
      all_goals
        go_wp2_with fail
        refine bodyPost_ret (v := .tuple #[.slice a3 (takeL M n h).length c3, .agg #[.int .i64 M.length, .slice a4 R4.length c4], .int .i64 0]) ?_ rfl ?_
        · simp [results, Try.results35, go_sem, r0, r1, f0, f1]
        · exact took_end HRR.out HS.out.B HO4.out HR4.out HA4.out HF4.out
end Go.Proofs.Ytolhajkbamhdgaa
