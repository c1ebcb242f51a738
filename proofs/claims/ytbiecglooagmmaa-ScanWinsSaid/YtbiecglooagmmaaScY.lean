/-
  The law ScanOlder: plain part and walk.
  Conditions: as the theorems say.
-/
import Derived.Test.YtbiecglooagmmaaScV
import Derived.Test.YtbiecglooagmmaaScW
namespace Go.Proofs.Ytbiecglooagmmaa
set_option linter.unusedSimpArgs false
set_option linter.unusedVariables false
set_option maxRecDepth 100000
open Go.RowKit

theorem nnG_set (g : Geo) (S : List SV) (n : Nat) (s : SV) : nnG g (S.set n s) = nnG g S := by unfold nnG; rw [List.length_set]
theorem secs_set (S : List SV) (n : Nat) (s : SV) : secs (S.set n s) = (secs S).set n s.l := by rw [secs, List.map_set]
theorem older_found {g : Geo} {S : List SV} {n : Nat} {s : SV} {bl : Int} (hn : n < S.length) (hc : cand bl s.l = none) (h : ∀ c ∈ FF g bl S, c.i ≠ n) : FF g bl (S.set n s) = FF g bl S := by
  unfold FF
  rw [nnG_set, secs_set]
  exact found_older hc (by simpa using hn) h
theorem older_bands {g : Geo} {S : List SV} {n : Nat} {s : SV} {bl : Int} (hn : n < S.length) (hno : S[n].a.isNone = s.a.isNone) (hF : FF g bl (S.set n s) = FF g bl S) : (LL g bl (S.set n s)).map noAge = (LL g bl S).map noAge := by
  unfold LL
  rw [hF, nnG_set]
  refine live_older _ (bands_older (fun j => ?_) _)
  rw [List.getD_eq_getElem?_getD, List.getD_eq_getElem?_getD, List.getElem?_map, List.getElem?_map, List.getElem?_set]
  by_cases e : n = j
  · subst e
    rw [if_pos rfl, if_pos hn, List.getElem?_eq_getElem hn]
    exact hno.symm
  · rw [if_neg e]
def zK (L : List Bd) : Nat → List Bd
  | 0 => L
  | k + 1 => (zK L k).modify k fun x => ⟨x.used, x.live, 0, x.wear⟩
theorem zK_len (L : List Bd) (k : Nat) : (zK L k).length = L.length := by
  induction k with
  | zero => rfl
  | succ k ih => rw [zK, List.length_modify, ih]
theorem zK_at (L : List Bd) (k i : Nat) : (zK L k)[i]? = if i < k then (L[i]?).map noAge else L[i]? := by
  induction k with
  | zero => simp [zK]
  | succ k ih =>
    rw [zK, List.getElem?_modify, ih]
    by_cases e : k = i
    · subst e
      rw [if_neg (Nat.lt_irrefl _), if_pos (Nat.lt_succ_self _)]
      simp only [if_true]
      rfl
    · simp only [e, if_false]
      by_cases h : i < k
      · rw [if_pos h, if_pos (by omega)]
        cases L[i]? <;> rfl
      · rw [if_neg h, if_neg (by omega)]
        cases L[i]? <;> rfl
theorem zK_all (L : List Bd) : zK L L.length = L.map noAge := by
  apply List.ext_getElem?
  intro i
  rw [zK_at, List.getElem?_map]
  by_cases h : i < L.length
  · rw [if_pos h]
  · rw [if_neg h, List.getElem?_eq_none (by omega)]
    rfl
theorem pscan_m (g : Geo) (bl : Int) (S : List SV) (m : Nat) (a : Option Addr) (c : Nat) (w : World) (hm : S.length = m) (hg : g.ok = true) (hr : RdZ w a S) (hc : m ≤ c) :
    Calls Try.prog 9 #[g.v, .slice a m c, .int .i64 bl] w (ScanQ g.r (FF g bl S) (LL g bl S) w) := by
  subst hm
  exact pscan_q g bl S a c w hg hr hc
set_option maxHeartbeats 16000000 in
theorem law_older17 (g : Geo) (S : List SV) (k : Int) (a : Option Addr) (c : Nat) (w : World) (hl : S.length ≤ c ∧ c ≤ 9223372036854775807) (hr : RdZ0 w a S) (_hk : -9223372036854775808 ≤ k ∧ k ≤ 9223372036854775807) :
    Calls Try.prog 4 #[g.v, .slice a S.length c, .int .i64 k] w fun e w' => e = .returned (.bool true) ∧ Below w.heap.size w w' := by
  have HA := Lib.hid (fun W => awake17_any W)
  have HFR := Lib.hid (fun W (hb : Below w.heap.size w W) => fair_any g S a c W (by omega) (hr.keep hb))
  obtain ⟨fb, hfb⟩ : ∃ fb, fairB g S = fb := ⟨_, rfl⟩
  have HSM : Hid (fb = true → S.length ≤ 300 ∧ RdZ w a S) := Lib.hid (fun h => by
    rw [← hfb] at h
    obtain ⟨h1, h2⟩ := fairB_yes h
    exact ⟨h1, hr.small h1 h2⟩)
  have HV := Lib.hid (fun W => rgvalid_any g W)
  have HZ := Lib.hid (fun W => rgsize_any g W)
  have HPY := Lib.hid (fun S' a' c' W (h1 : g.ok = true) (hm : S'.length = S.length) (h2 : RdZ W a' S') (h3 : S.length ≤ c') => pscan_m g 100 S' S.length a' c' W hm h1 h2 h3)
  have HBD := Lib.hid (fun h : g.ok = true => Geo.bd h)
  have HLL := Lib.hid (fun S' => LL_len g 100 S')
  have HOF := Lib.hid (fun n s => @older_found g S n s 100)
  have HOB := Lib.hid (fun n s => @older_bands g S n s 100)
  rw [hfb] at HFR
  obtain ⟨gk, hgk⟩ : ∃ b, g.ok = b := ⟨_, rfl⟩
  obtain ⟨sz, hsz⟩ : ∃ b, g.size = b := ⟨_, rfl⟩
  rw [hgk] at HPY HV HBD
  rw [hsz] at HZ HBD
  generalize FF g 100 = FFg at *
  generalize LL g 100 = LLg at *
  obtain ⟨gr, gb, gt, gs, go⟩ := g
  unfold ScanQ at HPY
  unfold Geo.v at *
  simp only at HFR HPY HV HZ HBD HLL ⊢
  have HG := Lib.hid (GX.init w gr gb gt gs go)
  have q22 : ∀ (w : World) (a : Option Addr) (n c n' c' : Nat), (binOp .eql 36 (.slice a n c) (.slice none n' c')).run Try.prog w = .ok (.bool a.isNone) w := fun w a n c n' c' => Lib.run_eql_slice_nil w _ _ a n c n' c' Try.underlying36
  clear hfb hgk hsz hr
  go_enter Try.func4, Try.ntmps4
  go_wp2_with fail
  generalize w.alloc (.cells #[.int .i64 gr, .int .i64 gb, .int .i64 gt, .int .i64 gs, .int .i64 go] 23) = W0 at *
  have q0 := HG.out.q0
  have q1 := HG.out.q1
  have q2 := HG.out.q2
  have q3 := HG.out.q3
  have q4 := HG.out.q4
  cases fb with
  | false =>
    refine wp_region_next (by kernel_rfl) (by kernel_rfl) ?_
    repeat (go_big_quiet_step (((first | (go_at_call 7; exact Calls.next_of (HA.out _)) | (go_at_call 8; exact Calls.next_of (HFR.out _ (HG.out.b.onNext _))) | (go_at_call 13; exact Calls.next_of (HV.out _)) | (go_at_call 14; exact Calls.next_of (HZ.out _))))))
    refine wpQuiet_nil ?_
    intro _ hw'
    obtain ⟨nq, hw''⟩ := hw'
    subst hw''
    replace HG := Lib.hid (HG.out.later (World.below_next W0 nq))
    clear q0 q1 q2 q3 q4
    have q0 := HG.out.q0
    have q1 := HG.out.q1
    have q2 := HG.out.q2
    have q3 := HG.out.q3
    have q4 := HG.out.q4
    go_wp2_with fail
    refine (HA.out _).mono ?_
    rintro e w9 ⟨rfl, hb9⟩
    replace HG := Lib.hid (HG.out.later hb9)
    clear hb9 q0 q1 q2 q3 q4
    go_wp2_with fail
    go_ret
    exact ⟨rfl, HG.out.b⟩
  | true =>
  obtain ⟨hlen, hrz⟩ := HSM.out (by first | rfl | trivial)
  have HR := Lib.hid hrz
  clear HSM hrz
  cases gk with
  | false =>
    refine wp_region_next (by kernel_rfl) (by kernel_rfl) ?_
    repeat (go_big_quiet_step (((first | (go_at_call 7; exact Calls.next_of (HA.out _)) | (go_at_call 8; exact Calls.next_of (HFR.out _ (HG.out.b.onNext _))) | (go_at_call 13; exact Calls.next_of (HV.out _)) | (go_at_call 14; exact Calls.next_of (HZ.out _))))))
    refine wpQuiet_nil ?_
    intro _ hw'
    obtain ⟨nq, hw''⟩ := hw'
    subst hw''
    replace HG := Lib.hid (HG.out.later (World.below_next W0 nq))
    clear q0 q1 q2 q3 q4
    have q0 := HG.out.q0
    have q1 := HG.out.q1
    have q2 := HG.out.q2
    have q3 := HG.out.q3
    have q4 := HG.out.q4
    go_wp2_with fail
    refine (HA.out _).mono ?_
    rintro e w9 ⟨rfl, hb9⟩
    replace HG := Lib.hid (HG.out.later hb9)
    clear hb9 q0 q1 q2 q3 q4
    go_wp2_with fail
    go_ret
    exact ⟨rfl, HG.out.b⟩
  | true =>
  have hbd := HBD.out (by first | rfl | trivial)
  by_cases hk0 : k < 0
  · have hd : decide (k < 0) = true := by simpa using hk0
    clear hbd
    refine wp_region_next (by kernel_rfl) (by kernel_rfl) ?_
    repeat (go_big_quiet_step (((first | (go_at_call 7; exact Calls.next_of (HA.out _)) | (go_at_call 8; exact Calls.next_of (HFR.out _ (HG.out.b.onNext _))) | (go_at_call 13; exact Calls.next_of (HV.out _)) | (go_at_call 14; exact Calls.next_of (HZ.out _))))))
    refine wpQuiet_nil ?_
    intro _ hw'
    obtain ⟨nq, hw''⟩ := hw'
    subst hw''
    replace HG := Lib.hid (HG.out.later (World.below_next W0 nq))
    clear q0 q1 q2 q3 q4
    have q0 := HG.out.q0
    have q1 := HG.out.q1
    have q2 := HG.out.q2
    have q3 := HG.out.q3
    have q4 := HG.out.q4
    go_wp2_with fail
    refine (HA.out _).mono ?_
    rintro e w9 ⟨rfl, hb9⟩
    replace HG := Lib.hid (HG.out.later hb9)
    clear hb9 q0 q1 q2 q3 q4
    go_wp2_with fail
    go_ret
    exact ⟨rfl, HG.out.b⟩
  have hd : decide (k < 0) = false := by simpa using hk0
  obtain ⟨n, rfl⟩ := Int.eq_ofNat_of_zero_le (by omega : 0 ≤ k)
  by_cases hk1 : S.length ≤ n
  · have hd2 : decide ((S.length : Int) ≤ n) = true := by simpa using hk1
    clear hbd
    refine wp_region_next (by kernel_rfl) (by kernel_rfl) ?_
    repeat (go_big_quiet_step (((first | (go_at_call 7; exact Calls.next_of (HA.out _)) | (go_at_call 8; exact Calls.next_of (HFR.out _ (HG.out.b.onNext _))) | (go_at_call 13; exact Calls.next_of (HV.out _)) | (go_at_call 14; exact Calls.next_of (HZ.out _))))))
    refine wpQuiet_nil ?_
    intro _ hw'
    obtain ⟨nq, hw''⟩ := hw'
    subst hw''
    replace HG := Lib.hid (HG.out.later (World.below_next W0 nq))
    clear q0 q1 q2 q3 q4
    have q0 := HG.out.q0
    have q1 := HG.out.q1
    have q2 := HG.out.q2
    have q3 := HG.out.q3
    have q4 := HG.out.q4
    go_wp2_with fail
    refine (HA.out _).mono ?_
    rintro e w9 ⟨rfl, hb9⟩
    replace HG := Lib.hid (HG.out.later hb9)
    clear hb9 q0 q1 q2 q3 q4
    go_wp2_with fail
    go_ret
    exact ⟨rfl, HG.out.b⟩
  have hd2 : decide ((S.length : Int) ≤ n) = false := by simpa using hk1
  have hwm : IntKind.i64.wrap (gb * sz) = gb * sz := IntWalk.i64_in _ (by omega)
  have hgr : 0 ≤ gr ∧ gr ≤ 16384 := by omega
  have HL6 : Hid ((LLg S).length ≤ 65536) := Lib.hid (by rw [HLL.out]; omega)
  clear hbd HBD
  by_cases hk2 : gb * sz ≤ n
  · have hd3 : decide (gb * sz ≤ n) = true := by simpa using hk2
    refine wp_region_next (by kernel_rfl) (by kernel_rfl) ?_
    repeat (go_big_quiet_step (((first | (go_at_call 7; exact Calls.next_of (HA.out _)) | (go_at_call 8; exact Calls.next_of (HFR.out _ (HG.out.b.onNext _))) | (go_at_call 13; exact Calls.next_of (HV.out _)) | (go_at_call 14; exact Calls.next_of (HZ.out _))))))
    refine wpQuiet_nil ?_
    intro _ hw'
    obtain ⟨nq, hw''⟩ := hw'
    subst hw''
    replace HG := Lib.hid (HG.out.later (World.below_next W0 nq))
    clear q0 q1 q2 q3 q4
    have q0 := HG.out.q0
    have q1 := HG.out.q1
    have q2 := HG.out.q2
    have q3 := HG.out.q3
    have q4 := HG.out.q4
    go_wp2_with fail
    refine (HA.out _).mono ?_
    rintro e w9 ⟨rfl, hb9⟩
    replace HG := Lib.hid (HG.out.later hb9)
    clear hb9 q0 q1 q2 q3 q4
    go_wp2_with fail
    go_ret
    exact ⟨rfl, HG.out.b⟩
  have hd3 : decide (gb * sz ≤ n) = false := by simpa using hk2
  have hns : n < S.length := by omega
  have HNS := Lib.hid hns
  obtain ⟨bz, oz, rfl, hat⟩ := HR.out.at (by omega)
  have hcell := HG.out.b.keep (hat n _ (List.getElem?_eq_getElem hns))
  have HFIT := Lib.hid (HR.out.1 _ (List.getElem_mem hns))
  replace HOB := Lib.hid (fun s => HOB.out n s hns)
  replace HOF := Lib.hid (fun s => HOF.out n s hns)
  generalize S[n] = s0 at *
  obtain ⟨sa, sc, sl⟩ := s0
  unfold SV.v at hcell
  simp only at hcell HOB
  have hn1 : (n : Int) < S.length := by omega
  have hn0 : (0 : Int) ≤ n := by omega
  clear hat hns
  cases sa with
  | none =>
    refine wp_region_next (by kernel_rfl) (by kernel_rfl) ?_
    repeat (go_big_quiet_step (((first | (go_at_call 7; exact Calls.next_of (HA.out _)) | (go_at_call 8; exact Calls.next_of (HFR.out _ (HG.out.b.onNext _))) | (go_at_call 13; exact Calls.next_of (HV.out _)) | (go_at_call 14; exact Calls.next_of (HZ.out _))))))
    refine wpQuiet_nil ?_
    intro _ hw'
    obtain ⟨nq, hw''⟩ := hw'
    subst hw''
    replace HG := Lib.hid (HG.out.later (World.below_next W0 nq))
    clear q0 q1 q2 q3 q4
    have q0 := HG.out.q0
    have q1 := HG.out.q1
    have q2 := HG.out.q2
    have q3 := HG.out.q3
    have q4 := HG.out.q4
    go_wp2_with fail
    refine (HA.out _).mono ?_
    rintro e w9 ⟨rfl, hb9⟩
    replace HG := Lib.hid (HG.out.later hb9)
    clear hb9 q0 q1 q2 q3 q4
    go_wp2_with fail
    go_ret
    exact ⟨rfl, HG.out.b⟩
  | some sad =>
  refine wp_region_next (by kernel_rfl) (by kernel_rfl) ?_
  repeat (go_big_quiet_step (((first | (go_at_call 7; exact Calls.next_of (HA.out _)) | (go_at_call 8; exact Calls.next_of (HFR.out _ (HG.out.b.onNext _))) | (go_at_call 13; exact Calls.next_of (HV.out _)) | (go_at_call 14; exact Calls.next_of (HZ.out _))))))
  refine wpQuiet_nil ?_
  intro _ hw'
  obtain ⟨nq, hw''⟩ := hw'
  subst hw''
  replace HG := Lib.hid (HG.out.later (World.below_next W0 nq))
  clear q0 q1 q2 q3 q4
  have q0 := HG.out.q0
  have q1 := HG.out.q1
  have q2 := HG.out.q2
  have q3 := HG.out.q3
  have q4 := HG.out.q4
  clear hcell hwm hd hd2 hd3 hk0 hk1 hk2 q22 HFIT
  have HR1 := Lib.hid (HR.out.keep HG.out.b)
  generalize W0.next nq = W1 at *
  have HY0 := Lib.hid (HPY.out S (some ⟨bz, oz, none⟩) c W1 (by first | rfl | trivial) rfl HR1.out hl.1)
  obtain ⟨F, hF⟩ : ∃ F, FFg S = F := ⟨_, rfl⟩
  obtain ⟨L, hL⟩ : ∃ L, LLg S = L := ⟨_, rfl⟩
  rw [hF, hL] at HY0
  rw [hL] at HL6
  rw [hF] at HOF
  have HFF := Lib.hid hF
  have HLE := Lib.hid hL
  clear hF hL
  go_wp2_with fail
  have hle := HG.out.b.size
  refine HY0.out.mono ?_
  rintro e w3 ⟨fa, fc, G1, rfl, hf1, hd1, hg1, hb⟩
  replace HG := Lib.hid (HG.out.later hb)
  clear q0 q1 q2 q3 q4
  have q0 := HG.out.q0
  have q1 := HG.out.q1
  have q2 := HG.out.q2
  have q3 := HG.out.q3
  have q4 := HG.out.q4
  have HR3 := Lib.hid (HR1.out.keep hb)
  have HF1 := Lib.hid hf1
  have HD1 := Lib.hid hd1
  have hF65 := hf1.1
  have HGL : Hid (w.heap.size ≤ G1) := Lib.hid (Nat.le_trans hle hg1)
  have HGI := Lib.hid hgr
  clear hb hf1 hd1 hg1 HY0 HR1 hle hgr
  go_wp2_with fail
  clear q0 q1 q2 q3 q4
  go_loopw [9] (fun i wr => ∃ j : Nat, j ≤ F.length ∧ i = .int .i64 j ∧ Hid (∀ c ∈ F.take j, c.i ≠ n) ∧ Below w3.heap.size w3 wr) (fun i _ => F.length - (intOf i).toNat)
  case atStart => exact ⟨0, by omega, rfl, Lib.hid (by simp), Below.refl _ _⟩
  case round =>
    obtain ⟨j, hj, rfl, HS, hBj⟩ := hrel
    have HBj := Lib.hid hBj
    clear hBj
    by_cases hlt : j < F.length
    · obtain ⟨gf, rfl, hat⟩ := (HF1.out.keep HBj.out).2.resolve_left (by intro e; rw [e] at hlt; simp at hlt)
      have h1 := hat j _ (List.getElem?_eq_getElem hlt)
      have HT := Lib.hid (List.take_succ_eq_append_getElem hlt)
      have HGJ := Lib.hid (HG.out.later HBj.out)
      have q0 := HGJ.out.q0
      generalize F[j] = x at *
      obtain ⟨⟨ki, bk, vr, d0, d1, d2, d3, d4, d5, d6, d7⟩, tm, ci⟩ := x
      unfold fdC at h1
      have a11 := h1 11 _ rfl
      simp only at a11
      have hk1 : (j : Int) < F.length := by omega
      have hk0 : (0 : Int) ≤ j := by omega
      have hgr := HGI.out
      have hw : IntKind.i64.wrap (gr + (n : Int)) = gr + (n : Int) := IntWalk.i64_in _ (by omega)
      clear hat h1 hgr
      by_cases hxe : ci = n
      · subst hxe
        go_wp2_with fail
        refine wp_region_next (by kernel_rfl) (by kernel_rfl) ?_
        repeat (go_big_quiet_step (fail))
        refine wpQuiet_nil ?_
        intro _ hw'
        obtain ⟨nq, hw''⟩ := hw'
        subst hw''
        go_wp2_with fail
        go_ret
        exact ⟨rfl, HGJ.out.b.onNext _⟩
      · have he1 : (gr + (ci : Int) == gr + (n : Int)) = false := by simp; omega
        have he2 : decide (gr + (ci : Int) = gr + (n : Int)) = false := by simp; omega
        go_wp2_with fail
        refine wp_region_next (by kernel_rfl) (by kernel_rfl) ?_
        repeat (go_big_quiet_step (fail))
        refine wpQuiet_nil ?_
        intro _ hw'
        obtain ⟨nq, hw''⟩ := hw'
        subst hw''
        go_wp2_with fail
        go_roundw
        case rel => exact ⟨j + 1, by omega, by go_num, Lib.hid (fun y hy => by
          rw [HT.out, List.mem_append, List.mem_singleton] at hy
          rcases hy with hy | rfl
          · exact HS.out y hy
          · exact hxe), HBj.out.onNext _⟩
        case measure => simp [intOf]; omega
    · obtain rfl : j = F.length := by omega
      replace HS := Lib.hid (List.take_length (l := F) ▸ HS.out)
      have HF2 := Lib.hid (HF1.out.keep HBj.out)
      have HD2 := Lib.hid (HD1.out.keep HBj.out)
      have HR4 := Lib.hid (HR3.out.keep HBj.out)
      replace HG := Lib.hid (HG.out.later HBj.out)
      clear HF1 HD1 HR3 HBj hlt hj
      go_wp2_with fail
      have hk0 := (Below.refl wr.heap.size wr).drew
      have HG0 := Lib.hid (HG.out.later hk0)
      have HF3 := Lib.hid (HF2.out.keep hk0)
      have HD3 := Lib.hid (HD2.out.keep hk0)
      have HR5 := Lib.hid (HR4.out.keep hk0)
      clear HG HF2 HD2 HR4 hk0
      refine wp_region_held_drew (S := (fun W' => W'.cell? ⟨w.heap.size, 0, none⟩ = some (.int .i64 gr) ∧ W'.cell? ⟨w.heap.size, 1, none⟩ = some (.int .i64 gb) ∧ W'.cell? ⟨w.heap.size, 2, none⟩ = some (.int .i64 gt) ∧ W'.cell? ⟨w.heap.size, 3, none⟩ = some (.int .i64 gs) ∧ W'.cell? ⟨w.heap.size, 4, none⟩ = some (.int .i64 go))) (by kernel_rfl) ⟨HG0.out.q0, HG0.out.q1, HG0.out.q2, HG0.out.q3, HG0.out.q4⟩ (fun hHeld => ?_)
      generalize wr.drew = V0 at *
      refine wpAnyH_take (i := 0) (v := ?_) rfl (by kernel_rfl) (by kernel_rfl) (by kernel_rfl) (fun _ _ _ h => h) (Or.inl ⟨by rfl, ?_⟩) (by assumption) ?_
      rotate_left
      · (intro w hSw; (try dsimp only at hSw); go_simp; try with_reducible rfl)
      try simp only [Act.put, List.setIfInBounds_toArray, List.set_cons_zero, List.set_cons_succ]
      refine wpAnyH_take (i := 1) (v := ?_) rfl (by kernel_rfl) (by kernel_rfl) (by kernel_rfl) (fun _ _ _ h => h) (Or.inl ⟨by rfl, ?_⟩) (by assumption) ?_
      rotate_left
      · (intro w hSw; (try dsimp only at hSw); go_simp; try with_reducible rfl)
      try simp only [Act.put, List.setIfInBounds_toArray, List.set_cons_zero, List.set_cons_succ]
      refine wpAnyH_take (i := 2) (v := ?_) rfl (by kernel_rfl) (by kernel_rfl) (by kernel_rfl) (fun _ _ _ h => h) (Or.inl ⟨by rfl, ?_⟩) (by assumption) ?_
      rotate_left
      · (intro w hSw; (try dsimp only at hSw); go_simp; try with_reducible rfl)
      try simp only [Act.put, List.setIfInBounds_toArray, List.set_cons_zero, List.set_cons_succ]
      refine wpAnyH_ready (rs := [3]) (by kernel_rfl) (by simp) ?_
      refine AllReadyH.cons rfl (fun K hK => ?_) AllReadyH.nil
      go_simp
      have hk := (Below.refl V0.heap.size V0).onAlloc (.cells #[.int .u8 63] 5)
      have HX : Hid (RdY (V0.alloc (.cells #[.int .u8 63] 5)) (some ⟨V0.heap.size, 0, none⟩) [63]) := Lib.hid (by
        obtain ⟨_, _, hv, _, _, hrd⟩ := (OwnY.one V0 V0.heap.size (Nat.le_refl _) 63).rd (by simp)
        injection hv with hv1 hv2 hv3
        subst hv1 hv3
        exact hrd)
      have HSH : Hid ((V0.alloc (.cells #[.int .u8 63] 5)).shape? V0.heap.size = some (5, 1)) := Lib.hid (shape_new V0 _ _)
      have HG1 := Lib.hid (HG0.out.later hk)
      have HX2 := Lib.hid (HX.out.freeze V0.heap.size 1)
      have hk2 := freeze_below (g := V0.heap.size) (n := 1) hk (Nat.le_refl _)
      have HG2 := Lib.hid (HG0.out.later hk2)
      have HF4 := Lib.hid (HF3.out.keep hk2)
      have HD4 := Lib.hid (HD3.out.keep hk2)
      have HR6 := Lib.hid (HR5.out.keep hk2)
      clear hk hk2 HX HG0 HF3 HD3 HR5
      refine hK.out _ _ ⟨HG1.out.q0, HG1.out.q1, HG1.out.q2, HG1.out.q3, HG1.out.q4⟩ (fun hHeld => ?_)
      clear hK K
      try simp only [Act.put, List.setIfInBounds_toArray, List.set_cons_zero, List.set_cons_succ]
      have hcm := conv_mark HSH.out 1 1
      refine wpAnyH_ready (rs := [4]) (by kernel_rfl) (by simp) ?_
      refine AllReadyH.cons rfl (fun K hK => ?_) AllReadyH.nil
      go_simp
      clear hcm HSH
      generalize (V0.alloc (.cells #[.int .u8 63] 5)).freeze ⟨V0.heap.size, 1, none⟩ 1 = V2 at *
      generalize V0.heap.size = xb at *
      clear HG1
      refine hK.out _ _ ⟨HG2.out.q0, HG2.out.q1, HG2.out.q2, HG2.out.q3, HG2.out.q4⟩ (fun hHeld => ?_)
      clear hK K
      try simp only [Act.put, List.setIfInBounds_toArray, List.set_cons_zero, List.set_cons_succ]
      refine wpAnyH_ready (rs := [5]) (by kernel_rfl) (by simp) ?_
      refine AllReadyH.cons rfl (fun K hK => ?_) AllReadyH.nil
      go_simp
      refine (with_any S n ⟨some ⟨xb, 0, none⟩, 1, [63]⟩ (some ⟨bz, oz, none⟩) c _ HR6.out HNS.out (by omega) ⟨HX2.out, by simp⟩).mono ?_
      rintro e w5 ⟨g5, c5, he5, hz5, hc5, hb5⟩
      rw [List.length_set] at he5 hc5
      subst he5
      have HG3 := Lib.hid (HG2.out.later hb5)
      have HF5 := Lib.hid (HF4.out.keep hb5)
      have HD5 := Lib.hid (HD4.out.keep hb5)
      clear hb5 HG2 HF4 HD4 HR6 HX2
      obtain ⟨T, hT⟩ : ∃ T, S.set n ⟨some ⟨xb, 0, none⟩, 1, [63]⟩ = T := ⟨_, rfl⟩
      have hTl : T.length = S.length := by rw [← hT, List.length_set]
      have hTF : FFg T = F := by rw [← hT]; exact HOF.out _ (cand_short (by simp)) HS.out
      have hTB : (LLg T).map noAge = L.map noAge := by rw [← HLE.out, ← hT]; exact HOB.out _ rfl (by rw [hT, hTF, HFF.out])
      rw [hT] at hz5
      have hTL : (LLg T).length = L.length := by have h := congrArg List.length hTB; simpa using h
      have HTB := Lib.hid hTB
      have HPT := Lib.hid (HPY.out T (some ⟨g5, 0, none⟩) c5 w5 (by first | rfl | trivial) hTl hz5 hc5)
      rw [hTF] at HPT
      rw [hTL] at HPT
      generalize LLg T = L2 at *
      have HTL := Lib.hid hTL
      clear hT hTl hTF hTB hz5 hc5 hTL
      refine hK.out _ _ ⟨HG3.out.q0, HG3.out.q1, HG3.out.q2, HG3.out.q3, HG3.out.q4⟩ (fun hHeld => ?_)
      clear hK K
      try simp only [Act.put, List.setIfInBounds_toArray, List.set_cons_zero, List.set_cons_succ]
      refine wpAnyH_ready (rs := [6]) (by kernel_rfl) (by simp) ?_
      refine AllReadyH.cons rfl (fun K hK => ?_) AllReadyH.nil
      go_simp
      refine HPT.out.mono ?_
      rintro e w6 ⟨fa2, fc2, G2, rfl, hf2, hd2, hg2, hb6⟩
      have HG4 := Lib.hid (HG3.out.later hb6)
      have HF6 := Lib.hid (HF5.out.keep hb6)
      have HD6 := Lib.hid (HD5.out.keep hb6)
      have HF7 := Lib.hid hf2
      have HD7 := Lib.hid hd2
      have HNE : Hid (G1 < G2) := Lib.hid (Nat.lt_of_lt_of_le HD5.out.lt hg2)
      clear hf2 hd2 hg2 hb6 HG3 HF5 HD5
      refine hK.out _ _ ⟨HG4.out.q0, HG4.out.q1, HG4.out.q2, HG4.out.q3, HG4.out.q4⟩ (fun hHeld => ?_)
      clear hK K
      try simp only [Act.put, List.setIfInBounds_toArray, List.set_cons_zero, List.set_cons_succ]
      refine wpAnyH_take (i := 7) (v := ?_) rfl (by kernel_rfl) (by kernel_rfl) (by kernel_rfl) (fun _ _ _ h => h) (Or.inl ⟨by rfl, ?_⟩) (by assumption) ?_
      rotate_left
      · (intro w hSw; (try dsimp only at hSw); go_simp; try with_reducible rfl)
      try simp only [Act.put, List.setIfInBounds_toArray, List.set_cons_zero, List.set_cons_succ]
      refine wpAnyH_take (i := 8) (v := ?_) rfl (by kernel_rfl) (by kernel_rfl) (by kernel_rfl) (fun _ _ _ h => h) (Or.inl ⟨by rfl, ?_⟩) (by assumption) ?_
      rotate_left
      · (intro w hSw; (try dsimp only at hSw); go_simp; try with_reducible rfl)
      try simp only [Act.put, List.setIfInBounds_toArray, List.set_cons_zero, List.set_cons_succ]
      refine wpAnyH_take (i := 9) (v := ?_) rfl (by kernel_rfl) (by kernel_rfl) (by kernel_rfl) (fun _ _ _ h => h) (Or.inl ⟨by rfl, ?_⟩) (by assumption) ?_
      rotate_left
      · (intro w hSw; (try dsimp only at hSw); go_simp; try with_reducible rfl)
      try simp only [Act.put, List.setIfInBounds_toArray, List.set_cons_zero, List.set_cons_succ]
      refine wpAnyH_take (i := 10) (v := ?_) rfl (by kernel_rfl) (by kernel_rfl) (by kernel_rfl) (fun _ _ _ h => h) (Or.inl ⟨by rfl, ?_⟩) (by assumption) ?_
      rotate_left
      · (intro w hSw; (try dsimp only at hSw); go_simp; try with_reducible rfl)
      try simp only [Act.put, List.setIfInBounds_toArray, List.set_cons_zero, List.set_cons_succ]
      refine wpAnyH_take (i := 11) (v := ?_) rfl (by kernel_rfl) (by kernel_rfl) (by kernel_rfl) (fun _ _ _ h => h) (Or.inl ⟨by rfl, ?_⟩) (by assumption) ?_
      rotate_left
      · (intro w hSw; (try dsimp only at hSw); go_simp; try with_reducible rfl)
      try simp only [Act.put, List.setIfInBounds_toArray, List.set_cons_zero, List.set_cons_succ]
      simp only [Act.put, List.getElem_toArray, List.getElem_cons_succ, List.getElem_cons_zero, List.setIfInBounds_toArray, List.set_cons_zero, List.set_cons_succ]
      refine wpAnyH_done (by kernel_rfl) ?_ _
      have HB4 := Lib.hid HG4.out.b
      clear HG4
      go_wp2_with fail
      refine (rsame_yes gr F fa fa2 fc fc2 _ HF6.out HF7.out).mono ?_
      rintro e w7 ⟨rfl, hb7⟩
      have HB5 := Lib.hid (HB4.out.on hb7)
      have HD8 := Lib.hid (HD6.out.keep hb7)
      have HD9 := Lib.hid (HD7.out.keep hb7)
      clear hb7 HB4 HD6 HD7 HF6 HF7
      go_wp2_with fail
      go_loopw [12] (fun i wr => ∃ j : Nat, j ≤ L.length ∧ i = .int .i64 j ∧ BdR wr G1 (zK L j) ∧ BdR wr G2 (zK L2 j) ∧ Below w.heap.size w wr) (fun i _ => L.length - (intOf i).toNat)
      case atStart => exact ⟨0, by omega, rfl, HD8.out, HD9.out, HB5.out⟩
      case round =>
        obtain ⟨j, hj, rfl, h1, h2, hBj⟩ := hrel
        have HB6 := Lib.hid hBj
        have HZ1 := Lib.hid h1
        have HZ2 := Lib.hid h2
        clear h1 h2 hBj HB5 HD8 HD9
        by_cases hlt : j < L.length
        · have hj1 : j < (zK L j).length := by rw [zK_len]; exact hlt
          have hj2 : j < (zK L2 j).length := by rw [zK_len, HTL.out]; exact hlt
          obtain ⟨x1, hx1⟩ : ∃ x, (zK L j)[j]? = some x := ⟨_, List.getElem?_eq_getElem hj1⟩
          obtain ⟨x2, hx2⟩ : ∃ x, (zK L2 j)[j]? = some x := ⟨_, List.getElem?_eq_getElem hj2⟩
          have b1 := (HZ1.out.at_ j _ hx1).c2
          have f1 := HZ1.out.fz
          have HY2 := Lib.hid (HZ2.out.other (sgrown_setCell wr ⟨G1, j * 4 + 2, none⟩ (.int .u64 0)) (by have := HNE.out; intro e; injection e with e; simp only at e; omega))
          have b2 := (HY2.out.at_ j _ hx2).c2
          have f2 := HY2.out.fz
          have HX1 := Lib.hid ((HZ1.out.age hj1 0).other (sgrown_setCell (wr.setCell ⟨G1, j * 4 + 2, none⟩ (.int .u64 0)) ⟨G2, j * 4 + 2, none⟩ (.int .u64 0)) (by have := HNE.out; intro e; injection e with e; simp only at e; omega))
          have HX2 := Lib.hid (HY2.out.age hj2 0)
          have HB7 : Hid (Below w.heap.size w ((wr.setCell ⟨G1, j * 4 + 2, none⟩ (.int .u64 0)).setCell ⟨G2, j * 4 + 2, none⟩ (.int .u64 0))) := Lib.hid ((HB6.out.setCell (by exact HGL.out) _).setCell (by have := HGL.out; have := HNE.out; show w.heap.size ≤ G2; omega) _)
          have hk1 : (j : Int) < L.length := by omega
          have hk0 : (0 : Int) ≤ j := by omega
          have hL6 : L.length ≤ 65536 := HL6.out
          clear hj1 hj2 hx1 hx2
          go_wp2_with fail
          go_roundw
          case rel => exact ⟨j + 1, by omega, by go_num, HX1.out, HX2.out, HB7.out⟩
          case measure => simp [intOf]; omega
        · obtain rfl : j = L.length := by omega
          have HW1 : Hid (BdR wr G1 (L.map noAge)) := Lib.hid (by rw [← zK_all]; exact HZ1.out)
          have HW2 : Hid (BdR wr G2 (L.map noAge)) := Lib.hid (by rw [← HTB.out, ← zK_all, HTL.out]; exact HZ2.out)
          obtain ⟨M, hM⟩ : ∃ M, L.map noAge = M := ⟨_, rfl⟩
          have hML : L.length = M.length := by rw [← hM, List.length_map]
          rw [hM] at HW1 HW2
          clear HZ1 HZ2 hM
          go_wp2_with fail
          rw [hML] at HL6 ⊢
          refine (bsame_yes M G1 G2 M.length M.length _ HL6.out HW1.out HW2.out).mono ?_
          rintro e w9 ⟨rfl, hb9⟩
          have HB8 := Lib.hid (HB6.out.on hb9)
          clear hb9
          go_wp2_with fail
          go_ret
          exact ⟨rfl, HB8.out⟩
end Go.Proofs.Ytbiecglooagmmaa
