/-
  The law ScanWins: plain part and walk.
  Conditions: as the theorems say.
-/
import Derived.Test.YtbiecglooagmmaaScY
namespace Go.Proofs.Ytbiecglooagmmaa
set_option linter.unusedSimpArgs false
set_option linter.unusedVariables false
set_option maxRecDepth 100000
open Go.RowKit

theorem wins_found {g : Geo} {S : List SV} {n b v : Nat} {s0 s1 : SV} (hn : n < S.length) (hn2 : n < g.b.toNat * g.size.toNat) (hb : b < 100) (hv1 : 1 ≤ v) (hv2 : v < 18446744073709551616) (h0 : s0.l = []) (h1 : s1.l = secL b v 0)
    (hv : ∀ c ∈ FF g 100 (S.set n s0), c.e.block = (b : Int) → c.e.ver < (v : Int)) : (⟨dataE b v, 0, n⟩ : Cd) ∈ FF g 100 (S.set n s1) := by
  unfold FF at hv ⊢
  rw [nnG_set, secs_set] at hv ⊢
  rw [h0] at hv
  rw [h1]
  refine found_best (b := (b : Int)) ?_
  refine best_wins (x := []) (by simpa using hn) (by unfold nnG; omega) (cand_sec (by omega) hv1 hv2 (by omega) (by omega)) rfl (cand_short (by simp)) fun c hc => ?_
  exact hv c (found_best hc) (best_some hc).2.1
theorem Up.one {l : List Cd} (h : Up l) {x y : Cd} (hx : x ∈ l) (hy : y ∈ l) (e : x.e.block = y.e.block) : x = y := by
  obtain ⟨i, hi⟩ := List.getElem?_of_mem hx
  obtain ⟨j, hj⟩ := List.getElem?_of_mem hy
  obtain ⟨hi1, hi2⟩ := List.getElem?_eq_some_iff.1 hi
  obtain ⟨hj1, hj2⟩ := List.getElem?_eq_some_iff.1 hj
  have hp := List.pairwise_iff_getElem.1 h
  rcases Nat.lt_trichotomy i j with hlt | heq | hgt
  · have := hp i j hi1 hj1 hlt
    rw [hi2, hj2] at this
    omega
  · subst heq
    rw [← hi2, ← hj2]
  · have := hp j i hj1 hi1 hgt
    rw [hi2, hj2] at this
    omega
theorem Up.before {l : List Cd} (h : Up l) {j : Nat} (hj : j < l.length) : ∀ c ∈ l.take j, c.e.block < l[j].e.block := by
  intro c hc
  obtain ⟨i, hi⟩ := List.getElem?_of_mem hc
  rw [List.getElem?_take] at hi
  split at hi
  · rename_i hij
    obtain ⟨hi1, hi2⟩ := List.getElem?_eq_some_iff.1 hi
    have := List.pairwise_iff_getElem.1 h i j hi1 hj hij
    rw [hi2] at this
    exact this
  · cases hi
set_option maxHeartbeats 16000000 in
theorem law_wins17 (g : Geo) (S : List SV) (k b : Int) (a : Option Addr) (c : Nat) (w : World) (hl : S.length ≤ c ∧ c ≤ 9223372036854775807) (hr : RdZ0 w a S) :
    Calls Try.prog 6 #[g.v, .slice a S.length c, .agg #[.int .i64 k, .int .i64 b]] w fun e w' => e = .returned (.bool true) ∧ Below w.heap.size w w' := by
  have HA := Lib.hid (fun W => awake17_any W)
  have HFR := Lib.hid (fun W (hb : Below w.heap.size w W) => fair_any g S a c W (by omega) (hr.keep hb))
  obtain ⟨fb, hfb⟩ : ∃ fb, fairB g S = fb := ⟨_, rfl⟩
  have HSM : Hid (fb = true → S.length ≤ 300 ∧ RdZ w a S) := Lib.hid (fun h => by
    rw [← hfb] at h
    obtain ⟨h1, h2⟩ := fairB_yes h
    exact ⟨h1, hr.small h1 h2⟩)
  have HV := Lib.hid (fun W => rgvalid_any g W)
  have HZ := Lib.hid (fun W => rgsize_any g W)
  have HPY := Lib.hid (fun S' a' c' W (h1 : g.ok = true) (hm : S'.length = S.length) (h2 : RdZ W a' S') (h3 : S.length ≤ c') => pscan_m g 100 S' S.length a' c' W hm h1 h2 h3)
  have HBD := Lib.hid (fun h : g.ok = true => Geo.bd h)
  have HWF := Lib.hid (fun n b v s0 s1 => @wins_found g S n b v s0 s1)
  have HUP : Hid (∀ S', Up (FF g 100 S')) := Lib.hid (fun S' => foundP_up 100 (secs S') (nnG g S') (capN 100))
  have HFA := Lib.hid (fun S' c (h : c ∈ FF g 100 S') => (cand_block (sfound_at h).2).2.2)
  rw [hfb] at HFR
  obtain ⟨gk, hgk⟩ : ∃ b, g.ok = b := ⟨_, rfl⟩
  obtain ⟨sz, hsz⟩ : ∃ b, g.size = b := ⟨_, rfl⟩
  rw [hgk] at HPY HV HBD
  rw [hsz] at HZ HBD HWF
  generalize FF g 100 = FFg at *
  generalize LL g 100 = LLg at *
  obtain ⟨gr, gb, gt, gs, go⟩ := g
  unfold ScanQ at HPY
  unfold Geo.v at *
  simp only at HFR HPY HV HZ HBD HWF ⊢
  have HG := Lib.hid (GX.init w gr gb gt gs go)
  clear hfb hgk hsz hr
  go_enter Try.func6, Try.ntmps6
  go_wp2_with fail
  have hka := (Below.refl (w.alloc (.cells #[.int .i64 gr, .int .i64 gb, .int .i64 gt, .int .i64 gs, .int .i64 go] 23)).heap.size (w.alloc (.cells #[.int .i64 gr, .int .i64 gb, .int .i64 gt, .int .i64 gs, .int .i64 go] 23))).onAlloc (.cells #[.int .i64 k, .int .i64 b] 52)
  replace HG := Lib.hid (HG.out.later hka)
  clear hka
  have p0 : ((w.alloc (.cells #[.int .i64 gr, .int .i64 gb, .int .i64 gt, .int .i64 gs, .int .i64 go] 23)).alloc (.cells #[.int .i64 k, .int .i64 b] 52)).cell? ⟨w.heap.size + 1, 0, none⟩ = some (.int .i64 k) := by simp
  have p1 : ((w.alloc (.cells #[.int .i64 gr, .int .i64 gb, .int .i64 gt, .int .i64 gs, .int .i64 go] 23)).alloc (.cells #[.int .i64 k, .int .i64 b] 52)).cell? ⟨w.heap.size + 1, 1, none⟩ = some (.int .i64 b) := by simp
  generalize (w.alloc (.cells #[.int .i64 gr, .int .i64 gb, .int .i64 gt, .int .i64 gs, .int .i64 go] 23)).alloc (.cells #[.int .i64 k, .int .i64 b] 52) = V0 at *
  refine wp_region_next (by kernel_rfl) (by kernel_rfl) ?_
  repeat (go_big_quiet_step (fail))
  refine wpQuiet_nil ?_
  intro _ hw'
  obtain ⟨nq, hw''⟩ := hw'
  subst hw''
  clear p0 p1
  replace HG := Lib.hid (HG.out.later (World.below_next V0 nq))
  generalize V0.next nq = W0 at *
  go_wp2_with fail
  have q0 := HG.out.q0
  have q1 := HG.out.q1
  have q2 := HG.out.q2
  have q3 := HG.out.q3
  have q4 := HG.out.q4
  cases fb with
  | false =>
    refine wp_region_next (by kernel_rfl) (by kernel_rfl) ?_
    repeat (go_big_quiet_step (((first | (go_at_call 7; exact Calls.next_of (HA.out _)) | (go_at_call 8; exact Calls.next_of (HFR.out _ (HG.out.b.onNext _))) | (go_at_call 13; exact Calls.next_of (HV.out _)) | (go_at_call 14; exact Calls.next_of (HZ.out _))))))
    refine wpQuiet_nil ?_
    intro _ hw'
    obtain ⟨nq, hw''⟩ := hw'
    subst hw''
    replace HG := Lib.hid (HG.out.later (World.below_next W0 nq))
    clear q0 q1 q2 q3 q4
    have q0 := HG.out.q0
    have q1 := HG.out.q1
    have q2 := HG.out.q2
    have q3 := HG.out.q3
    have q4 := HG.out.q4
    go_wp2_with fail
    refine (HA.out _).mono ?_
    rintro e w9 ⟨rfl, hb9⟩
    replace HG := Lib.hid (HG.out.later hb9)
    clear hb9 q0 q1 q2 q3 q4
    go_wp2_with fail
    go_ret
    exact ⟨rfl, HG.out.b⟩
  | true =>
  obtain ⟨hlen, hrz⟩ := HSM.out (by first | rfl | trivial)
  have HR := Lib.hid hrz
  clear HSM hrz
  cases gk with
  | false =>
    refine wp_region_next (by kernel_rfl) (by kernel_rfl) ?_
    repeat (go_big_quiet_step (((first | (go_at_call 7; exact Calls.next_of (HA.out _)) | (go_at_call 8; exact Calls.next_of (HFR.out _ (HG.out.b.onNext _))) | (go_at_call 13; exact Calls.next_of (HV.out _)) | (go_at_call 14; exact Calls.next_of (HZ.out _))))))
    refine wpQuiet_nil ?_
    intro _ hw'
    obtain ⟨nq, hw''⟩ := hw'
    subst hw''
    replace HG := Lib.hid (HG.out.later (World.below_next W0 nq))
    clear q0 q1 q2 q3 q4
    have q0 := HG.out.q0
    have q1 := HG.out.q1
    have q2 := HG.out.q2
    have q3 := HG.out.q3
    have q4 := HG.out.q4
    go_wp2_with fail
    refine (HA.out _).mono ?_
    rintro e w9 ⟨rfl, hb9⟩
    replace HG := Lib.hid (HG.out.later hb9)
    clear hb9 q0 q1 q2 q3 q4
    go_wp2_with fail
    go_ret
    exact ⟨rfl, HG.out.b⟩
  | true =>
  have hbd := HBD.out (by first | rfl | trivial)
  by_cases hk0 : k < 0
  · have hd : decide (k < 0) = true := by simpa using hk0
    clear hbd
    refine wp_region_next (by kernel_rfl) (by kernel_rfl) ?_
    repeat (go_big_quiet_step (((first | (go_at_call 7; exact Calls.next_of (HA.out _)) | (go_at_call 8; exact Calls.next_of (HFR.out _ (HG.out.b.onNext _))) | (go_at_call 13; exact Calls.next_of (HV.out _)) | (go_at_call 14; exact Calls.next_of (HZ.out _))))))
    refine wpQuiet_nil ?_
    intro _ hw'
    obtain ⟨nq, hw''⟩ := hw'
    subst hw''
    replace HG := Lib.hid (HG.out.later (World.below_next W0 nq))
    clear q0 q1 q2 q3 q4
    have q0 := HG.out.q0
    have q1 := HG.out.q1
    have q2 := HG.out.q2
    have q3 := HG.out.q3
    have q4 := HG.out.q4
    go_wp2_with fail
    refine (HA.out _).mono ?_
    rintro e w9 ⟨rfl, hb9⟩
    replace HG := Lib.hid (HG.out.later hb9)
    clear hb9 q0 q1 q2 q3 q4
    go_wp2_with fail
    go_ret
    exact ⟨rfl, HG.out.b⟩
  have hd : decide (k < 0) = false := by simpa using hk0
  obtain ⟨n, rfl⟩ := Int.eq_ofNat_of_zero_le (by omega : 0 ≤ k)
  by_cases hk1 : S.length ≤ n
  · have hd2 : decide ((S.length : Int) ≤ n) = true := by simpa using hk1
    clear hbd
    refine wp_region_next (by kernel_rfl) (by kernel_rfl) ?_
    repeat (go_big_quiet_step (((first | (go_at_call 7; exact Calls.next_of (HA.out _)) | (go_at_call 8; exact Calls.next_of (HFR.out _ (HG.out.b.onNext _))) | (go_at_call 13; exact Calls.next_of (HV.out _)) | (go_at_call 14; exact Calls.next_of (HZ.out _))))))
    refine wpQuiet_nil ?_
    intro _ hw'
    obtain ⟨nq, hw''⟩ := hw'
    subst hw''
    replace HG := Lib.hid (HG.out.later (World.below_next W0 nq))
    clear q0 q1 q2 q3 q4
    have q0 := HG.out.q0
    have q1 := HG.out.q1
    have q2 := HG.out.q2
    have q3 := HG.out.q3
    have q4 := HG.out.q4
    go_wp2_with fail
    refine (HA.out _).mono ?_
    rintro e w9 ⟨rfl, hb9⟩
    replace HG := Lib.hid (HG.out.later hb9)
    clear hb9 q0 q1 q2 q3 q4
    go_wp2_with fail
    go_ret
    exact ⟨rfl, HG.out.b⟩
  have hd2 : decide ((S.length : Int) ≤ n) = false := by simpa using hk1
  have hwm : IntKind.i64.wrap (gb * sz) = gb * sz := IntWalk.i64_in _ (by omega)
  have hgr : 0 ≤ gr ∧ gr ≤ 16384 := by omega
  by_cases hk2 : gb * sz ≤ n
  · have hd3 : decide (gb * sz ≤ n) = true := by simpa using hk2
    clear hbd
    refine wp_region_next (by kernel_rfl) (by kernel_rfl) ?_
    repeat (go_big_quiet_step (((first | (go_at_call 7; exact Calls.next_of (HA.out _)) | (go_at_call 8; exact Calls.next_of (HFR.out _ (HG.out.b.onNext _))) | (go_at_call 13; exact Calls.next_of (HV.out _)) | (go_at_call 14; exact Calls.next_of (HZ.out _))))))
    refine wpQuiet_nil ?_
    intro _ hw'
    obtain ⟨nq, hw''⟩ := hw'
    subst hw''
    replace HG := Lib.hid (HG.out.later (World.below_next W0 nq))
    clear q0 q1 q2 q3 q4
    have q0 := HG.out.q0
    have q1 := HG.out.q1
    have q2 := HG.out.q2
    have q3 := HG.out.q3
    have q4 := HG.out.q4
    go_wp2_with fail
    refine (HA.out _).mono ?_
    rintro e w9 ⟨rfl, hb9⟩
    replace HG := Lib.hid (HG.out.later hb9)
    clear hb9 q0 q1 q2 q3 q4
    go_wp2_with fail
    go_ret
    exact ⟨rfl, HG.out.b⟩
  have hd3 : decide (gb * sz ≤ n) = false := by simpa using hk2
  have HN2 : Hid (n < gb.toNat * sz.toNat) := Lib.hid (by
    obtain ⟨x, hx⟩ := Int.eq_ofNat_of_zero_le (by omega : 0 ≤ gb)
    obtain ⟨y, hy⟩ := Int.eq_ofNat_of_zero_le (by omega : 0 ≤ sz)
    rw [hx, hy] at hk2 ⊢
    simp only [Int.toNat_natCast]
    have : (n : Int) < ((x * y : Nat) : Int) := by push_cast; omega
    omega)
  have HNS : Hid (n < S.length) := Lib.hid (by omega)
  have HGI := Lib.hid hgr
  clear hbd HBD hgr
  by_cases hb0 : b < 0
  · have hd4 : decide (b < 0) = true := by simpa using hb0
    refine wp_region_next (by kernel_rfl) (by kernel_rfl) ?_
    repeat (go_big_quiet_step (((first | (go_at_call 7; exact Calls.next_of (HA.out _)) | (go_at_call 8; exact Calls.next_of (HFR.out _ (HG.out.b.onNext _))) | (go_at_call 13; exact Calls.next_of (HV.out _)) | (go_at_call 14; exact Calls.next_of (HZ.out _))))))
    refine wpQuiet_nil ?_
    intro _ hw'
    obtain ⟨nq, hw''⟩ := hw'
    subst hw''
    replace HG := Lib.hid (HG.out.later (World.below_next W0 nq))
    clear q0 q1 q2 q3 q4
    have q0 := HG.out.q0
    have q1 := HG.out.q1
    have q2 := HG.out.q2
    have q3 := HG.out.q3
    have q4 := HG.out.q4
    go_wp2_with fail
    refine (HA.out _).mono ?_
    rintro e w9 ⟨rfl, hb9⟩
    replace HG := Lib.hid (HG.out.later hb9)
    clear hb9 q0 q1 q2 q3 q4
    go_wp2_with fail
    go_ret
    exact ⟨rfl, HG.out.b⟩
  have hd4 : decide (b < 0) = false := by simpa using hb0
  obtain ⟨b, rfl⟩ := Int.eq_ofNat_of_zero_le (by omega : 0 ≤ b)
  by_cases hb1 : 100 ≤ b
  · have hd5 : decide ((100 : Int) ≤ b) = true := by simp; omega
    refine wp_region_next (by kernel_rfl) (by kernel_rfl) ?_
    repeat (go_big_quiet_step (((first | (go_at_call 7; exact Calls.next_of (HA.out _)) | (go_at_call 8; exact Calls.next_of (HFR.out _ (HG.out.b.onNext _))) | (go_at_call 13; exact Calls.next_of (HV.out _)) | (go_at_call 14; exact Calls.next_of (HZ.out _))))))
    refine wpQuiet_nil ?_
    intro _ hw'
    obtain ⟨nq, hw''⟩ := hw'
    subst hw''
    replace HG := Lib.hid (HG.out.later (World.below_next W0 nq))
    clear q0 q1 q2 q3 q4
    have q0 := HG.out.q0
    have q1 := HG.out.q1
    have q2 := HG.out.q2
    have q3 := HG.out.q3
    have q4 := HG.out.q4
    go_wp2_with fail
    refine (HA.out _).mono ?_
    rintro e w9 ⟨rfl, hb9⟩
    replace HG := Lib.hid (HG.out.later hb9)
    clear hb9 q0 q1 q2 q3 q4
    go_wp2_with fail
    go_ret
    exact ⟨rfl, HG.out.b⟩
  have hd5 : decide ((100 : Int) ≤ b) = false := by simp; omega
  refine wp_region_next (by kernel_rfl) (by kernel_rfl) ?_
  repeat (go_big_quiet_step (((first | (go_at_call 7; exact Calls.next_of (HA.out _)) | (go_at_call 8; exact Calls.next_of (HFR.out _ (HG.out.b.onNext _))) | (go_at_call 13; exact Calls.next_of (HV.out _)) | (go_at_call 14; exact Calls.next_of (HZ.out _))))))
  refine wpQuiet_nil ?_
  intro _ hw'
  obtain ⟨nq, hw''⟩ := hw'
  subst hw''
  replace HG := Lib.hid (HG.out.later (World.below_next W0 nq))
  clear q0 q1 q2 q3 q4
  have q0 := HG.out.q0
  have q1 := HG.out.q1
  have q2 := HG.out.q2
  have q3 := HG.out.q3
  have q4 := HG.out.q4
  clear hwm hd hd2 hd3 hd4 hd5 hk0 hk1 hk2 hb0
  have HR1 := Lib.hid (HR.out.keep HG.out.b)
  have HB1 : Hid (b < 100) := Lib.hid (by omega)
  generalize W0.next nq = W1 at *
  have HWT := Lib.hid (with_any S n ⟨none, 0, []⟩ a c W1 HR1.out HNS.out (by omega) ⟨RdY.nil _, by simp⟩)
  go_wp2_with fail
  refine HWT.out.mono ?_
  rintro e w3 ⟨g3, c3, he3, hz3, hc3, hb3⟩
  rw [List.length_set] at he3 hc3
  subst he3
  replace HG := Lib.hid (HG.out.later hb3)
  clear q0 q1 q2 q3 q4
  have q0 := HG.out.q0
  have q1 := HG.out.q1
  have q2 := HG.out.q2
  have q3 := HG.out.q3
  have q4 := HG.out.q4
  have HR3 := Lib.hid (HR1.out.keep hb3)
  have HPY0 := Lib.hid (HPY.out (S.set n ⟨none, 0, []⟩) (some ⟨g3, 0, none⟩) c3 w3 (by first | rfl | trivial) (List.length_set ..) hz3 hc3)
  replace HWF := Lib.hid (fun v s1 => HWF.out n b v ⟨none, 0, []⟩ s1 HNS.out HN2.out HB1.out)
  have HUF := Lib.hid (HUP.out (S.set n ⟨none, 0, []⟩))
  have HVB := Lib.hid (HFA.out (S.set n ⟨none, 0, []⟩))
  generalize FFg (S.set n ⟨none, 0, []⟩) = F at *
  generalize LLg (S.set n ⟨none, 0, []⟩) = L at *
  clear hb3 hz3 hc3 HR1 HWT
  go_wp2_with fail
  refine HPY0.out.mono ?_
  rintro e w4 ⟨fa, fc, G1, rfl, hf1, _, _, hb⟩
  replace HG := Lib.hid (HG.out.later hb)
  clear q0 q1 q2 q3 q4
  have q0 := HG.out.q0
  have q1 := HG.out.q1
  have q2 := HG.out.q2
  have q3 := HG.out.q3
  have q4 := HG.out.q4
  have HR4 := Lib.hid (HR3.out.keep hb)
  have hF65 := hf1.1
  have HF1 := Lib.hid hf1
  clear hb hf1 HPY0 HR3
  go_wp2_with fail
  clear q0 q1 q2 q3 q4
  go_loopw [12, 13] (fun v i wr => ∃ j m : Nat, j ≤ F.length ∧ i = .int .i64 j ∧ v = .int .u64 m ∧ 1 ≤ m ∧ m < 18446744073709551616 ∧ Hid (∀ c ∈ F.take j, c.e.block = (b : Int) → c.e.ver < (m : Int)) ∧ Below w4.heap.size w4 wr) (fun _ i _ => F.length - (intOf i).toNat)
  case atStart => exact ⟨0, 1, by omega, rfl, rfl, by omega, by omega, Lib.hid (by simp), Below.refl _ _⟩
  case round =>
    obtain ⟨j, m, hj, rfl, rfl, hm1, hm2, HS, hBj⟩ := hrel
    have HBj := Lib.hid hBj
    clear hBj
    by_cases hlt : j < F.length
    · obtain ⟨gf, rfl, hat⟩ := (HF1.out.keep HBj.out).2.resolve_left (by intro e; rw [e] at hlt; simp at hlt)
      have h1 := hat j _ (List.getElem?_eq_getElem hlt)
      have HT := Lib.hid (List.take_succ_eq_append_getElem hlt)
      have HBE := Lib.hid (HUF.out.before hlt)
      have HVE := Lib.hid (HVB.out _ (List.getElem_mem hlt))
      have HM0 := Lib.hid (And.intro hm1 hm2)
      generalize F[j] = x at *
      obtain ⟨⟨ki, bk, vr, d0, d1, d2, d3, d4, d5, d6, d7⟩, tm, ci⟩ := x
      unfold fdC at h1
      have a1 := h1 1 _ rfl
      have a2 := h1 2 _ rfl
      simp only at a1 a2 HBE HVE
      have hk1 : (j : Int) < F.length := by omega
      have hk0 : (0 : Int) ≤ j := by omega
      obtain ⟨u, hu⟩ := Int.eq_ofNat_of_zero_le (by have := HVE.out; omega : 0 ≤ vr)
      subst hu
      have hu1 : (u : Int) < 18446744073709551616 := HVE.out.2
      have HJL := Lib.hid hlt
      clear hat h1 hlt hj hm1 hm2
      by_cases hbb : bk = (b : Int)
      · subst hbb
        by_cases hmx : u = 18446744073709551615
        · subst hmx
          have HBB := Lib.hid ((HG.out.later HBj.out).b)
          go_wp2_with fail
          go_ret
          exact ⟨rfl, HBB.out⟩
        · have he1 : ((u : Int) == 18446744073709551615) = false := by simp; omega
          have he2 : decide ((u : Int) = 18446744073709551615) = false := by simp; omega
          have he3 : ¬ (u : Int) = 18446744073709551615 := by omega
          have hwu : IntKind.u64.wrap ((u : Int) + 1) = ((u + 1 : Nat) : Int) := by rw [wraps_u64 _ (by omega) (by omega)]; push_cast; rfl
          go_wp2_with fail
          go_roundw
          case rel => exact ⟨j + 1, u + 1, HJL.out, by go_num, by first | rfl | (rw [hwu]; done) | (simp; done), by omega, by omega, Lib.hid (fun y hy hyb => by
            rw [HT.out, List.mem_append, List.mem_singleton] at hy
            rcases hy with hy | rfl
            · have := HBE.out y hy
              omega
            · simp only
              omega), HBj.out⟩
          case measure => have := HJL.out; simp [intOf]; omega
      · have he1 : (bk == (b : Int)) = false := by simpa using hbb
        have he2 : decide (bk = (b : Int)) = false := by simpa using hbb
        go_wp2_with fail
        go_roundw
        case rel => exact ⟨j + 1, m, HJL.out, by go_num, rfl, HM0.out.1, HM0.out.2, Lib.hid (fun y hy hyb => by
          rw [HT.out, List.mem_append, List.mem_singleton] at hy
          rcases hy with hy | rfl
          · exact HS.out y hy hyb
          · exact absurd hyb hbb), HBj.out⟩
        case measure => have := HJL.out; simp [intOf]; omega
    · obtain rfl : j = F.length := by omega
      replace HS := Lib.hid (List.take_length (l := F) ▸ HS.out)
      have HR5 := Lib.hid (HR4.out.keep HBj.out)
      replace HG := Lib.hid (HG.out.later HBj.out)
      have HM0 := Lib.hid (And.intro hm1 hm2)
      clear HF1 HR4 HBj hlt hj hm1 hm2
      go_wp2_with fail
      have hk0 := (Below.refl wr.heap.size wr).drew
      have HG0 := Lib.hid (HG.out.later hk0)
      have HR6 := Lib.hid (HR5.out.keep hk0)
      have HSE := Lib.hid (fun W => sector_any b m 0 W (by have := HB1.out; omega) (by have := HM0.out; omega) (by have := HM0.out; omega) (by omega))
      have HSL := Lib.hid (secL_len b m 0)
      clear HG HR5 hk0
      refine wp_region_held_drew (S := (fun W' => W'.cell? ⟨w.heap.size, 0, none⟩ = some (.int .i64 gr) ∧ W'.cell? ⟨w.heap.size, 1, none⟩ = some (.int .i64 gb) ∧ W'.cell? ⟨w.heap.size, 2, none⟩ = some (.int .i64 gt) ∧ W'.cell? ⟨w.heap.size, 3, none⟩ = some (.int .i64 gs) ∧ W'.cell? ⟨w.heap.size, 4, none⟩ = some (.int .i64 go))) (by kernel_rfl) ⟨HG0.out.q0, HG0.out.q1, HG0.out.q2, HG0.out.q3, HG0.out.q4⟩ (fun hHeld => ?_)
      generalize wr.drew = V0 at *
      refine wpAnyH_take (i := 0) (v := ?_) rfl (by kernel_rfl) (by kernel_rfl) (by kernel_rfl) (fun _ _ _ h => h) (Or.inl ⟨by rfl, ?_⟩) (by assumption) ?_
      rotate_left
      · (intro w hSw; (try dsimp only at hSw); go_simp; try with_reducible rfl)
      try simp only [Act.put, List.setIfInBounds_toArray, List.set_cons_zero, List.set_cons_succ]
      refine wpAnyH_take (i := 1) (v := ?_) rfl (by kernel_rfl) (by kernel_rfl) (by kernel_rfl) (fun _ _ _ h => h) (Or.inl ⟨by rfl, ?_⟩) (by assumption) ?_
      rotate_left
      · (intro w hSw; (try dsimp only at hSw); go_simp; try with_reducible rfl)
      try simp only [Act.put, List.setIfInBounds_toArray, List.set_cons_zero, List.set_cons_succ]
      refine wpAnyH_take (i := 2) (v := ?_) rfl (by kernel_rfl) (by kernel_rfl) (by kernel_rfl) (fun _ _ _ h => h) (Or.inl ⟨by rfl, ?_⟩) (by assumption) ?_
      rotate_left
      · (intro w hSw; (try dsimp only at hSw); go_simp; try with_reducible rfl)
      try simp only [Act.put, List.setIfInBounds_toArray, List.set_cons_zero, List.set_cons_succ]
      refine wpAnyH_take (i := 3) (v := ?_) rfl (by kernel_rfl) (by kernel_rfl) (by kernel_rfl) (fun _ _ _ h => h) (Or.inl ⟨by rfl, ?_⟩) (by assumption) ?_
      rotate_left
      · (intro w hSw; (try dsimp only at hSw); go_simp; try with_reducible rfl)
      try simp only [Act.put, List.setIfInBounds_toArray, List.set_cons_zero, List.set_cons_succ]
      refine wpAnyH_take (i := 4) (v := ?_) rfl (by kernel_rfl) (by kernel_rfl) (by kernel_rfl) (fun _ _ _ h => h) (Or.inl ⟨by rfl, ?_⟩) (by assumption) ?_
      rotate_left
      · (intro w hSw; (try dsimp only at hSw); go_simp; try with_reducible rfl)
      try simp only [Act.put, List.setIfInBounds_toArray, List.set_cons_zero, List.set_cons_succ]
      refine wpAnyH_ready (rs := [5]) (by kernel_rfl) (by simp) ?_
      refine AllReadyH.cons rfl (fun K hK => ?_) AllReadyH.nil
      go_simp
      refine (HSE.out _).mono ?_
      rintro e w5 ⟨v5, rfl, ho, hb5⟩
      obtain ⟨sa5, sc5, rfl, hs5, _, hy5⟩ := ho.rd (by rw [HSL.out]; omega)
      have HG1 := Lib.hid (HG0.out.later hb5)
      have HR7 := Lib.hid (HR6.out.keep hb5)
      have HY5 := Lib.hid hy5
      have HS5 := Lib.hid hs5
      clear hb5 ho hy5 hs5 HG0 HR6
      refine hK.out _ _ ⟨HG1.out.q0, HG1.out.q1, HG1.out.q2, HG1.out.q3, HG1.out.q4⟩ (fun hHeld => ?_)
      clear hK K
      try simp only [Act.put, List.setIfInBounds_toArray, List.set_cons_zero, List.set_cons_succ]
      refine wpAnyH_ready (rs := [6]) (by kernel_rfl) (by simp) ?_
      refine AllReadyH.cons rfl (fun K hK => ?_) AllReadyH.nil
      go_simp
      refine (with_any S n ⟨sa5, sc5, secL b m 0⟩ a c _ HR7.out HNS.out (by omega) ⟨HY5.out, HS5.out⟩).mono ?_
      rintro e w6 ⟨g6, c6, he6, hz6, hc6, hb6⟩
      rw [List.length_set] at he6 hc6
      subst he6
      have HG2 := Lib.hid (HG1.out.later hb6)
      have HPT := Lib.hid (HPY.out (S.set n ⟨sa5, sc5, secL b m 0⟩) (some ⟨g6, 0, none⟩) c6 w6 (by first | rfl | trivial) (List.length_set ..) hz6 hc6)
      have HWM := Lib.hid (HWF.out m ⟨sa5, sc5, secL b m 0⟩ HM0.out.1 HM0.out.2 (by first | rfl | trivial) rfl HS.out)
      have HUT := Lib.hid (HUP.out (S.set n ⟨sa5, sc5, secL b m 0⟩))
      generalize FFg (S.set n ⟨sa5, sc5, secL b m 0⟩) = F2 at *
      generalize LLg (S.set n ⟨sa5, sc5, secL b m 0⟩) = L2 at *
      clear hb6 hz6 hc6 HG1 HR7 HY5 HS5
      refine hK.out _ _ ⟨HG2.out.q0, HG2.out.q1, HG2.out.q2, HG2.out.q3, HG2.out.q4⟩ (fun hHeld => ?_)
      clear hK K
      try simp only [Act.put, List.setIfInBounds_toArray, List.set_cons_zero, List.set_cons_succ]
      refine wpAnyH_ready (rs := [7]) (by kernel_rfl) (by simp) ?_
      refine AllReadyH.cons rfl (fun K hK => ?_) AllReadyH.nil
      go_simp
      refine HPT.out.mono ?_
      rintro e w7 ⟨fa2, fc2, G2, rfl, hf2, _, _, hb7⟩
      have HG3 := Lib.hid (HG2.out.later hb7)
      have HF2 := Lib.hid hf2
      have hF26 := hf2.1
      clear hf2 hb7 HG2
      refine hK.out _ _ ⟨HG3.out.q0, HG3.out.q1, HG3.out.q2, HG3.out.q3, HG3.out.q4⟩ (fun hHeld => ?_)
      clear hK K
      try simp only [Act.put, List.setIfInBounds_toArray, List.set_cons_zero, List.set_cons_succ]
      refine wpAnyH_take (i := 8) (v := ?_) rfl (by kernel_rfl) (by kernel_rfl) (by kernel_rfl) (fun _ _ _ h => h) (Or.inl ⟨by rfl, ?_⟩) (by assumption) ?_
      rotate_left
      · (intro w hSw; (try dsimp only at hSw); go_simp; try with_reducible rfl)
      try simp only [Act.put, List.setIfInBounds_toArray, List.set_cons_zero, List.set_cons_succ]
      refine wpAnyH_take (i := 9) (v := ?_) rfl (by kernel_rfl) (by kernel_rfl) (by kernel_rfl) (fun _ _ _ h => h) (Or.inl ⟨by rfl, ?_⟩) (by assumption) ?_
      rotate_left
      · (intro w hSw; (try dsimp only at hSw); go_simp; try with_reducible rfl)
      try simp only [Act.put, List.setIfInBounds_toArray, List.set_cons_zero, List.set_cons_succ]
      refine wpAnyH_take (i := 10) (v := ?_) rfl (by kernel_rfl) (by kernel_rfl) (by kernel_rfl) (fun _ _ _ h => h) (Or.inl ⟨by rfl, ?_⟩) (by assumption) ?_
      rotate_left
      · (intro w hSw; (try dsimp only at hSw); go_simp; try with_reducible rfl)
      try simp only [Act.put, List.setIfInBounds_toArray, List.set_cons_zero, List.set_cons_succ]
      refine wpAnyH_take (i := 11) (v := ?_) rfl (by kernel_rfl) (by kernel_rfl) (by kernel_rfl) (fun _ _ _ h => h) (Or.inl ⟨by rfl, ?_⟩) (by assumption) ?_
      rotate_left
      · (intro w hSw; (try dsimp only at hSw); go_simp; try with_reducible rfl)
      try simp only [Act.put, List.setIfInBounds_toArray, List.set_cons_zero, List.set_cons_succ]
      refine wpAnyH_take (i := 12) (v := ?_) rfl (by kernel_rfl) (by kernel_rfl) (by kernel_rfl) (fun _ _ _ h => h) (Or.inl ⟨by rfl, ?_⟩) (by assumption) ?_
      rotate_left
      · (intro w hSw; (try dsimp only at hSw); go_simp; try with_reducible rfl)
      try simp only [Act.put, List.setIfInBounds_toArray, List.set_cons_zero, List.set_cons_succ]
      simp only [Act.put, List.getElem_toArray, List.getElem_cons_succ, List.getElem_cons_zero, List.setIfInBounds_toArray, List.set_cons_zero, List.set_cons_succ]
      refine wpAnyH_done (by kernel_rfl) ?_ _
      go_wp2_with fail
      go_loopw [16] (fun i wr => ∃ j : Nat, j ≤ F2.length ∧ i = .int .i64 j ∧ Hid (∀ c ∈ F2.take j, c.e.block ≠ (b : Int)) ∧ Below w7.heap.size w7 wr) (fun i _ => F2.length - (intOf i).toNat)
      case atStart => exact ⟨0, by omega, rfl, Lib.hid (by simp), Below.refl _ _⟩
      case round =>
        obtain ⟨j, hj, rfl, HT2, hBj⟩ := hrel
        have HBj := Lib.hid hBj
        clear hBj
        by_cases hlt : j < F2.length
        · obtain ⟨gf, rfl, hat⟩ := (HF2.out.keep HBj.out).2.resolve_left (by intro e; rw [e] at hlt; simp at hlt)
          have h1 := hat j _ (List.getElem?_eq_getElem hlt)
          have HT := Lib.hid (List.take_succ_eq_append_getElem hlt)
          have HON : Hid (F2[j].e.block = (b : Int) → F2[j] = ⟨dataE b m, 0, n⟩) := Lib.hid fun e => HUT.out.one (List.getElem_mem hlt) HWM.out (by rw [e]; rfl)
          have HGJ := Lib.hid (HG3.out.later HBj.out)
          have q0 := HGJ.out.q0
          generalize F2[j] = x at *
          have hk1 : (j : Int) < F2.length := by omega
          have hk0 : (0 : Int) ≤ j := by omega
          have HJL := Lib.hid hlt
          clear hat hlt hj
          by_cases hbb : x.e.block = (b : Int)
          · obtain rfl := HON.out hbb
            unfold fdC at h1
            have a1 := h1 1 _ rfl
            have a2 := h1 2 _ rfl
            have a11 := h1 11 _ rfl
            unfold dataE at a1 a2
            simp only at a1 a2 a11
            have hgr := HGI.out
            have hwg : IntKind.i64.wrap (gr + (n : Int)) = gr + (n : Int) := IntWalk.i64_in _ (by have := HNS.out; omega)
            clear h1 hbb hgr
            go_wp2_with fail
            refine wp_region_next (by kernel_rfl) (by kernel_rfl) ?_
            repeat (go_big_quiet_step (fail))
            refine wpQuiet_nil ?_
            intro _ hw'
            obtain ⟨nq, hw''⟩ := hw'
            subst hw''
            go_wp2_with fail
            go_ret
            exact ⟨rfl, HGJ.out.b.onNext _⟩
          · obtain ⟨⟨ki, bk, vr, d0, d1, d2, d3, d4, d5, d6, d7⟩, tm, ci⟩ := x
            unfold fdC at h1
            have a1 := h1 1 _ rfl
            simp only at a1 hbb
            have he1 : (bk == (b : Int)) = false := by simpa using hbb
            have he2 : decide (bk = (b : Int)) = false := by simpa using hbb
            clear h1
            go_wp2_with fail
            go_roundw
            case rel => exact ⟨j + 1, HJL.out, by go_num, Lib.hid (fun y hy => by
              rw [HT.out, List.mem_append, List.mem_singleton] at hy
              rcases hy with hy | rfl
              · exact HT2.out y hy
              · exact hbb), HBj.out⟩
            case measure => have := HJL.out; simp [intOf]; omega
        · obtain rfl : j = F2.length := by omega
          exact (HT2.out ⟨dataE b m, 0, n⟩ (by rw [List.take_length]; exact HWM.out) rfl).elim
end Go.Proofs.Ytbiecglooagmmaa
