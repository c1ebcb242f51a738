/-
  The law ScanSums: plain part and walk.
  Conditions: as the theorems say.
-/
import Derived.Test.YtbiecglooagmmaaScV
import Derived.Test.YtbiecglooagmmaaScW
namespace Go.Proofs.Ytbiecglooagmmaa
set_option linter.unusedSimpArgs false
set_option linter.unusedVariables false
set_option maxRecDepth 100000
open Go.RowKit

theorem ssec_no {S : List SV} {w : World} {a : Option Addr} (hr : RdZ w a S) : ∀ s ∈ ssec S, s.no = true → s.l = [] := by
  intro s hs hno
  obtain ⟨v, hv, rfl⟩ := List.mem_map.1 hs
  unfold SV.sec at hno ⊢
  simp only at hno ⊢
  have hf := (hr.1 v hv).1
  cases ha : v.a with
  | some ad => rw [ha] at hno; cases hno
  | none =>
    rcases hf.2 with h | ⟨_, _, h, _⟩
    · exact h
    · rw [ha] at h; cases h
theorem FF_at {g : Geo} {bl : Int} {S : List SV} {c : Cd} (h : c ∈ FF g bl S) : c.i < S.length ∧ c.i < g.b.toNat * g.size.toNat ∧ cand bl ((secs S).getD c.i []) = some (c.e, c.t) := by
  obtain ⟨h1, h2⟩ := sfound_at h
  unfold nnG at h1
  exact ⟨by omega, by omega, h2⟩
theorem LL_live {g : Geo} {bl : Int} {S : List SV} (hg : g.ok = true) : liveS (LL g bl S) = (FF g bl S).length := by
  have hbd := Geo.bd hg
  refine sumLive _ _ _ (fun x hx => ?_) (fun c hc => ?_)
  · obtain ⟨j, hj⟩ := List.getElem?_of_mem hx
    exact (bands_used (by omega) _ j x hj).1
  · rw [bandsK_len]
    exact mul_bd (by omega) (FF_at hc).2.1
theorem LL_used {g : Geo} {bl : Int} {S : List SV} (hg : g.ok = true) (hS : ∀ s ∈ ssec S, s.no = true → s.l = []) : ∀ x ∈ LL g bl S, 0 ≤ x.live ∧ x.live ≤ x.used ∧ x.used ≤ (g.size.toNat : Int) := by
  intro x hx
  have hbd := Geo.bd hg
  obtain ⟨j, hj⟩ := List.getElem?_of_mem hx
  have hm : (ssec S).map (·.l) = secs S := by rw [List.map_map]; rfl
  refine live_used (bl := bl) (nb := g.b.toNat) (n := nnG g S) (m := capN bl) (by omega) hS (j := j) ?_
  rw [hm]
  exact hj
set_option maxHeartbeats 16000000 in
theorem law_sums17 (g : Geo) (S : List SV) (bl : Int) (a : Option Addr) (c : Nat) (w : World) (hl : S.length ≤ c ∧ c ≤ 9223372036854775807) (hr : RdZ0 w a S) (_hbl : -9223372036854775808 ≤ bl ∧ bl ≤ 9223372036854775807) :
    Calls Try.prog 5 #[g.v, .slice a S.length c, .int .i64 bl] w fun e w' => e = .returned (.bool true) ∧ Below w.heap.size w w' := by
  have HA := Lib.hid (fun W => awake17_any W)
  have HFR := Lib.hid (fun W (hb : Below w.heap.size w W) => fair_any g S a c W (by omega) (hr.keep hb))
  obtain ⟨fb, hfb⟩ : ∃ fb, fairB g S = fb := ⟨_, rfl⟩
  have HSM : Hid (fb = true → S.length ≤ 300 ∧ RdZ w a S) := Lib.hid (fun h => by
    rw [← hfb] at h
    obtain ⟨h1, h2⟩ := fairB_yes h
    exact ⟨h1, hr.small h1 h2⟩)
  have HV := Lib.hid (fun W => rgvalid_any g W)
  have HZ := Lib.hid (fun W => rgsize_any g W)
  have HPY := Lib.hid (fun W (h1 : g.ok = true) (h2 : RdZ w a S) (hb : Below w.heap.size w W) => pscan_q g bl S a c W h1 (h2.keep hb) hl.1)
  have HBD := Lib.hid (fun h : g.ok = true => Geo.bd h)
  have HLL := Lib.hid (LL_len g bl S)
  have HLV := Lib.hid (fun h => @LL_live g bl S h)
  have HLU := Lib.hid (fun h => @LL_used g bl S h)
  have HFA := Lib.hid (fun c h => @FF_at g bl S c h)
  have HUP : Hid (Up (FF g bl S)) := Lib.hid (foundP_up bl (secs S) (nnG g S) (capN bl))
  rw [hfb] at HFR
  obtain ⟨gk, hgk⟩ : ∃ b, g.ok = b := ⟨_, rfl⟩
  obtain ⟨sz, hsz⟩ : ∃ b, g.size = b := ⟨_, rfl⟩
  rw [hgk] at HPY HV HBD HLV HLU
  rw [hsz] at HZ HBD HLU HFA
  generalize FF g bl S = F at *
  generalize LL g bl S = L at *
  obtain ⟨gr, gb, gt, gs, go⟩ := g
  unfold ScanQ at HPY
  unfold Geo.v at *
  simp only at HFR HPY HV HZ HBD HLL HFA ⊢
  have HG := Lib.hid (GX.init w gr gb gt gs go)
  clear hfb hgk hsz hr
  have q0 := HG.out.q0
  have q1 := HG.out.q1
  have q2 := HG.out.q2
  have q3 := HG.out.q3
  have q4 := HG.out.q4
  go_enter Try.func5, Try.ntmps5
  go_wp2_with fail
  generalize w.alloc (.cells #[.int .i64 gr, .int .i64 gb, .int .i64 gt, .int .i64 gs, .int .i64 go] 23) = W0 at *
  refine (HA.out _).mono ?_
  rintro e w1 ⟨rfl, hb⟩
  replace HG := Lib.hid (HG.out.later hb)
  clear q0 q1 q2 q3 q4
  have q0 := HG.out.q0
  have q1 := HG.out.q1
  have q2 := HG.out.q2
  have q3 := HG.out.q3
  have q4 := HG.out.q4
  clear hb
  go_wp2_with fail
  refine (HFR.out _ HG.out.b).mono ?_
  rintro e w2 ⟨rfl, hb⟩
  replace HG := Lib.hid (HG.out.later hb)
  clear q0 q1 q2 q3 q4
  have q0 := HG.out.q0
  have q1 := HG.out.q1
  have q2 := HG.out.q2
  have q3 := HG.out.q3
  have q4 := HG.out.q4
  clear hb HFR
  cases fb with
  | false =>
    go_wp2_with fail
    refine (HA.out _).mono ?_
    rintro e w9 ⟨rfl, hb9⟩
    replace HG := Lib.hid (HG.out.later hb9)
    clear hb9 q0 q1 q2 q3 q4
    go_wp2_with fail
    go_ret
    exact ⟨rfl, HG.out.b⟩
  | true =>
  obtain ⟨hlen, hrz⟩ := HSM.out (by first | rfl | trivial)
  have HR := Lib.hid hrz
  clear HSM hrz
  by_cases hb1 : 1000 < bl
  · have hd : decide (1000 < bl) = true := by simpa using hb1
    go_wp2_with fail
    refine (HA.out _).mono ?_
    rintro e w9 ⟨rfl, hb9⟩
    replace HG := Lib.hid (HG.out.later hb9)
    clear hb9 q0 q1 q2 q3 q4
    go_wp2_with fail
    go_ret
    exact ⟨rfl, HG.out.b⟩
  have hd : decide (1000 < bl) = false := by simpa using hb1
  go_wp2_with fail
  refine (HV.out _).mono ?_
  rintro e w3 ⟨rfl, hb⟩
  replace HG := Lib.hid (HG.out.later hb)
  clear q0 q1 q2 q3 q4
  have q0 := HG.out.q0
  have q1 := HG.out.q1
  have q2 := HG.out.q2
  have q3 := HG.out.q3
  have q4 := HG.out.q4
  clear hb HV
  cases gk with
  | false =>
    go_wp2_with fail
    refine (HA.out _).mono ?_
    rintro e w9 ⟨rfl, hb9⟩
    replace HG := Lib.hid (HG.out.later hb9)
    clear hb9 q0 q1 q2 q3 q4
    go_wp2_with fail
    go_ret
    exact ⟨rfl, HG.out.b⟩
  | true =>
  have HBB := Lib.hid (HBD.out (by first | rfl | trivial))
  clear HBD
  go_wp2_with fail
  refine (HPY.out _ (by first | rfl | trivial) HR.out HG.out.b).mono ?_
  rintro e w4 ⟨fa, fc, G1, rfl, hf1, hd1, _, hb⟩
  replace HG := Lib.hid (HG.out.later hb)
  clear q0 q1 q2 q3 q4
  have q0 := HG.out.q0
  have q1 := HG.out.q1
  have q2 := HG.out.q2
  have q3 := HG.out.q3
  have q4 := HG.out.q4
  have HF1 := Lib.hid hf1
  have HD1 := Lib.hid hd1
  have hF65 := hf1.1
  have HR1 := Lib.hid (HR.out.keep HG.out.b)
  have HLV1 := Lib.hid (HLV.out (by first | rfl | trivial))
  have HLU1 := Lib.hid (HLU.out (by first | rfl | trivial) (ssec_no HR.out))
  clear hb hf1 hd1 HPY HR HLV HLU hb1 hd
  go_wp2_with fail
  clear q0 q1 q2 q3 q4
  go_loopw [9, 10, 11, 12, 13] (fun i _ _ _ _ wr => ∃ j : Nat, j ≤ F.length ∧ i = .int .i64 j ∧ Below w4.heap.size w4 wr) (fun i _ _ _ _ _ => F.length - (intOf i).toNat)
  case atStart => exact ⟨0, by omega, rfl, Below.refl _ _⟩
  case round =>
    obtain ⟨j, hj, rfl, hBj⟩ := hrel
    have HBj := Lib.hid hBj
    clear hBj
    by_cases hlt : j < F.length
    · obtain ⟨gf, rfl, hat⟩ := (HF1.out.keep HBj.out).2.resolve_left (by intro e; rw [e] at hlt; simp at hlt)
      have h1 := hat j _ (List.getElem?_eq_getElem hlt)
      have hfa := HFA.out _ (List.getElem_mem hlt)
      have HPV : Hid (∀ i, j = i + 1 → ∃ y : Cd, F[i]? = some y ∧ y.e.block < F[j].e.block) := Lib.hid fun i hi => by
        refine ⟨F[i], List.getElem?_eq_getElem (by omega), ?_⟩
        exact List.pairwise_iff_getElem.1 HUP.out i j (by omega) hlt (by omega)
      have HGJ := Lib.hid (HG.out.later HBj.out)
      have q0 := HGJ.out.q0
      generalize F[j] = x at *
      obtain ⟨ce, ct, ci⟩ := x
      obtain ⟨hx1, hx2, hx3⟩ := hfa
      simp only at hx1 hx2 hx3 HPV
      rw [secs_at hx1] at hx3
      have HDE := Lib.hid (cand_some hx3).2.2.2.2.2
      obtain ⟨bb, oo, rfl, hatz⟩ := HR1.out.at (by omega)
      have HZC := Lib.hid (hatz ci _ (List.getElem?_eq_getElem hx1))
      have hfit := HR1.out.1 _ (List.getElem_mem hx1)
      have HEN := Lib.hid (fun W (hb : Below w4.heap.size w4 W) => rdecode_any S[ci].l S[ci].a S[ci].c W ((hfit.keep hb).1) hfit.2)
      generalize S[ci] = sv at *
      obtain ⟨sa, sc, sl⟩ := sv
      unfold SV.v at HZC
      unfold DecP at HEN
      simp only at HZC HEN HDE
      rw [HDE.out] at HEN
      obtain ⟨ki, bk, vr, d0, d1, d2, d3, d4, d5, d6, d7⟩ := ce
      unfold Ent.v at HEN
      unfold fdC at h1
      simp only [byV] at HEN h1 HPV
      have hz := HBj.out.keep HZC.out
      have HAT : Hid (∀ jj u, ([.int .i64 ki, .int .i64 bk, .int .u64 vr, .int .u8 d0.toNat, .int .u8 d1.toNat, .int .u8 d2.toNat, .int .u8 d3.toNat, .int .u8 d4.toNat, .int .u8 d5.toNat, .int .u8 d6.toNat, .int .u8 d7.toNat, .int .i64 (gr + ci)] : List Value)[jj]? = some u → wr.cell? ⟨gf, j * 12 + jj, none⟩ = some u) := Lib.hid h1
      have a1 := h1 1 _ rfl
      have a11 := h1 11 _ rfl
      have HPB : Hid (∀ i y, F[i]? = some y → wr.cell? ⟨gf, i * 12 + 1, none⟩ = some (.int .i64 y.e.block)) := Lib.hid fun i y hy => hat i y hy 1 _ rfl
      have hw : IntKind.i64.wrap (gr + (ci : Int) - gr) = ci := by rw [show gr + (ci : Int) - gr = ci by omega]; exact IntWalk.i64_in _ (by omega)
      have hk1 : (j : Int) < F.length := by omega
      have hk0 : (0 : Int) ≤ j := by omega
      have hc2 : decide ((ci : Int) < 0) = false := by simp
      have hc1 : decide ((S.length : Int) ≤ ci) = false := by simp; omega
      have hc3 : ¬ S.length ≤ ci := by omega
      have hc4 : decide (S.length ≤ ci) = false := by simp; omega
      have hn1 : (ci : Int) < S.length := by omega
      have hn0 : (0 : Int) ≤ ci := by omega
      have HJL := Lib.hid hlt
      clear hat hatz h1 hx1 hx2 hx3 hfit hlt
      go_wp2_with fail
      refine wp_region_next (by kernel_rfl) (by kernel_rfl) ?_
      repeat (go_big_quiet_step (fail))
      refine wpQuiet_nil ?_
      intro _ hw'
      obtain ⟨nq, hw''⟩ := hw'
      subst hw''
      go_wp2_with fail
      replace HGJ := Lib.hid (HGJ.out.later (World.below_next wr nq))
      replace a1 := (World.below_next wr nq).keep a1
      replace hz := (World.below_next wr nq).keep hz
      replace HAT := Lib.hid (fun jj u hu => (World.below_next wr nq).keep (HAT.out jj u hu))
      replace HPB := Lib.hid (fun i y hy => (World.below_next wr nq).keep (HPB.out i y hy))
      have HB1 := Lib.hid (HBj.out.onNext nq)
      clear q0 a11 HBj
      generalize wr.next nq = W1 at *
      by_cases hj0 : j = 0
      · have hp : decide ((0 : Int) < j) = false := by simp; omega
        have hp2 : ¬ 0 < j := by omega
        have hp3 : decide (0 < j) = false := by simp; omega
        clear hj0
        refine wp_region_next (by kernel_rfl) (by kernel_rfl) ?_
        repeat (go_big_quiet_step (fail))
        refine wpQuiet_nil ?_
        intro _ hw'
        obtain ⟨nq, hw''⟩ := hw'
        subst hw''
        replace HAT := Lib.hid (fun jj u hu => (World.below_next W1 nq).keep (HAT.out jj u hu))
        replace hz := (World.below_next W1 nq).keep hz
        replace HB1 := Lib.hid (HB1.out.onNext nq)
        clear a1 hp hp2 hp3
        generalize W1.next nq = W2 at *
        go_wp2_with fail
        refine (HEN.out _ HB1.out).mono ?_
        rintro e w6 ⟨rfl, hb⟩
        have hka := (Below.refl w6.heap.size w6).onAlloc (.cells #[.int .i64 ki, .int .i64 bk, .int .u64 vr, .int .u8 d0.toNat, .int .u8 d1.toNat, .int .u8 d2.toNat, .int .u8 d3.toNat, .int .u8 d4.toNat, .int .u8 d5.toNat, .int .u8 d6.toNat, .int .u8 d7.toNat] 41)
        have HE2 := Lib.hid (CEe.new w6 ⟨ki, bk, vr, d0, d1, d2, d3, d4, d5, d6, d7⟩)
        simp only [byV] at HE2
        have HB2 := Lib.hid ((HB1.out.on hb).on hka)
        replace HAT := Lib.hid (fun jj u hu => hka.keep (hb.keep (HAT.out jj u hu)))
        have a0 := HAT.out 0 _ rfl
        have a1 := HAT.out 1 _ rfl
        have a2 := HAT.out 2 _ rfl
        have a3 := HAT.out 3 _ rfl
        have a4 := HAT.out 4 _ rfl
        have a5 := HAT.out 5 _ rfl
        have a6 := HAT.out 6 _ rfl
        have a7 := HAT.out 7 _ rfl
        have a8 := HAT.out 8 _ rfl
        have a9 := HAT.out 9 _ rfl
        have a10 := HAT.out 10 _ rfl
        simp only [Nat.add_zero] at a0
        clear hb hka hz HB1
        go_upto_region 11 with fail
        have c0 := HE2.out.c0
        have c1 := HE2.out.c1
        have c2 := HE2.out.c2
        have c3 := HE2.out.c3
        have c4 := HE2.out.c4
        have c5 := HE2.out.c5
        have c6 := HE2.out.c6
        have c7 := HE2.out.c7
        have c8 := HE2.out.c8
        have c9 := HE2.out.c9
        have c10 := HE2.out.c10
        have cf := HE2.out.f
        simp only [byV] at c0 c1 c2 c3 c4 c5 c6 c7 c8 c9 c10
        have hqa := arr_self d0 d1 d2 d3 d4 d5 d6 d7 9996
        have hqb := arr_self d0 d1 d2 d3 d4 d5 d6 d7 9997
        simp only [Nat.reduceAdd] at hqa hqb
        generalize w6.alloc (.cells #[.int .i64 ki, .int .i64 bk, .int .u64 vr, .int .u8 d0.toNat, .int .u8 d1.toNat, .int .u8 d2.toNat, .int .u8 d3.toNat, .int .u8 d4.toNat, .int .u8 d5.toNat, .int .u8 d6.toNat, .int .u8 d7.toNat] 41) = W3 at *
        generalize w6.heap.size = T at *
        refine wp_region_next (by kernel_rfl) (by kernel_rfl) ?_
        repeat (go_big_quiet_step (fail))
        refine wpQuiet_nil ?_
        intro _ hw'
        obtain ⟨nq, hw''⟩ := hw'
        subst hw''
        go_wp2_with fail
        go_roundw
        case rel => exact ⟨j + 1, HJL.out, by go_num, HB2.out.onNext _⟩
        case measure => have := HJL.out; simp [intOf]; omega
      · obtain ⟨i, hi⟩ : ∃ i, j = i + 1 := ⟨j - 1, by omega⟩
        have hp : decide ((0 : Int) < j) = true := by simp; omega
        have hp2 : 0 < j := by omega
        have hp3 : decide (0 < j) = true := by simp; omega
        obtain ⟨y, hy1, hy2⟩ := HPV.out i hi
        have b1 := HPB.out i y hy1
        have hle : decide (bk ≤ y.e.block) = false := by simp; omega
        have hw2 : IntKind.i64.wrap ((j : Int) - 1) = (i : Int) := by rw [show (j : Int) - 1 = i by omega]; exact IntWalk.i64_in _ (by omega)
        have hi1 : (i : Int) < F.length := by omega
        have hi0 : (0 : Int) ≤ i := by omega
        clear hy1 hy2 hi hj0
        refine wp_region_next (by kernel_rfl) (by kernel_rfl) ?_
        repeat (go_big_quiet_step (fail))
        refine wpQuiet_nil ?_
        intro _ hw'
        obtain ⟨nq, hw''⟩ := hw'
        subst hw''
        replace HAT := Lib.hid (fun jj u hu => (World.below_next W1 nq).keep (HAT.out jj u hu))
        clear b1 hle hw2 hi1 hi0
        replace hz := (World.below_next W1 nq).keep hz
        replace HB1 := Lib.hid (HB1.out.onNext nq)
        clear a1 hp hp2 hp3
        generalize W1.next nq = W2 at *
        go_wp2_with fail
        refine (HEN.out _ HB1.out).mono ?_
        rintro e w6 ⟨rfl, hb⟩
        have hka := (Below.refl w6.heap.size w6).onAlloc (.cells #[.int .i64 ki, .int .i64 bk, .int .u64 vr, .int .u8 d0.toNat, .int .u8 d1.toNat, .int .u8 d2.toNat, .int .u8 d3.toNat, .int .u8 d4.toNat, .int .u8 d5.toNat, .int .u8 d6.toNat, .int .u8 d7.toNat] 41)
        have HE2 := Lib.hid (CEe.new w6 ⟨ki, bk, vr, d0, d1, d2, d3, d4, d5, d6, d7⟩)
        simp only [byV] at HE2
        have HB2 := Lib.hid ((HB1.out.on hb).on hka)
        replace HAT := Lib.hid (fun jj u hu => hka.keep (hb.keep (HAT.out jj u hu)))
        have a0 := HAT.out 0 _ rfl
        have a1 := HAT.out 1 _ rfl
        have a2 := HAT.out 2 _ rfl
        have a3 := HAT.out 3 _ rfl
        have a4 := HAT.out 4 _ rfl
        have a5 := HAT.out 5 _ rfl
        have a6 := HAT.out 6 _ rfl
        have a7 := HAT.out 7 _ rfl
        have a8 := HAT.out 8 _ rfl
        have a9 := HAT.out 9 _ rfl
        have a10 := HAT.out 10 _ rfl
        simp only [Nat.add_zero] at a0
        clear hb hka hz HB1
        go_upto_region 11 with fail
        have c0 := HE2.out.c0
        have c1 := HE2.out.c1
        have c2 := HE2.out.c2
        have c3 := HE2.out.c3
        have c4 := HE2.out.c4
        have c5 := HE2.out.c5
        have c6 := HE2.out.c6
        have c7 := HE2.out.c7
        have c8 := HE2.out.c8
        have c9 := HE2.out.c9
        have c10 := HE2.out.c10
        have cf := HE2.out.f
        simp only [byV] at c0 c1 c2 c3 c4 c5 c6 c7 c8 c9 c10
        have hqa := arr_self d0 d1 d2 d3 d4 d5 d6 d7 9996
        have hqb := arr_self d0 d1 d2 d3 d4 d5 d6 d7 9997
        simp only [Nat.reduceAdd] at hqa hqb
        generalize w6.alloc (.cells #[.int .i64 ki, .int .i64 bk, .int .u64 vr, .int .u8 d0.toNat, .int .u8 d1.toNat, .int .u8 d2.toNat, .int .u8 d3.toNat, .int .u8 d4.toNat, .int .u8 d5.toNat, .int .u8 d6.toNat, .int .u8 d7.toNat] 41) = W3 at *
        generalize w6.heap.size = T at *
        refine wp_region_next (by kernel_rfl) (by kernel_rfl) ?_
        repeat (go_big_quiet_step (fail))
        refine wpQuiet_nil ?_
        intro _ hw'
        obtain ⟨nq, hw''⟩ := hw'
        subst hw''
        go_wp2_with fail
        go_roundw
        case rel => exact ⟨j + 1, HJL.out, by go_num, HB2.out.onNext _⟩
        case measure => have := HJL.out; simp [intOf]; omega
    · obtain rfl : j = F.length := by omega
      have HD2 := Lib.hid (HD1.out.keep HBj.out)
      replace HG := Lib.hid (HG.out.later HBj.out)
      have HLN : Hid (1 ≤ L.length ∧ L.length ≤ 64) := Lib.hid (by rw [HLL.out]; have := HBB.out; omega)
      have HSZ : Hid (1 ≤ sz ∧ sz ≤ 1024) := Lib.hid (by have := HBB.out; omega)
      clear HF1 HD1 HBj hlt hj HBB
      go_wp2_with fail
      refine (rlive_any L G1 L.length _ HLN.out.2 HD2.out (fun x hx => by have := HLU1.out x hx; have := HSZ.out; omega)).mono ?_
      rintro e w5 ⟨rfl, rfl⟩
      rw [HLV1.out]
      have q0 := HG.out.q0
      have q1 := HG.out.q1
      have q2 := HG.out.q2
      have q3 := HG.out.q3
      have q4 := HG.out.q4
      go_wp2_with fail
      refine (HZ.out _).mono ?_
      rintro e w6 ⟨rfl, hb⟩
      replace HG := Lib.hid (HG.out.later hb)
      clear q0 q1 q2 q3 q4
      have q0 := HG.out.q0
      have q1 := HG.out.q1
      have q2 := HG.out.q2
      have q3 := HG.out.q3
      have q4 := HG.out.q4
      have HD3 := Lib.hid (HD2.out.keep hb)
      clear hb
      go_wp2_with fail
      obtain ⟨z, rfl⟩ := Int.eq_ofNat_of_zero_le (by have := HSZ.out; omega : 0 ≤ sz)
      refine (rvalid16_yes L z G1 L.length _ HLN.out.1 HLN.out.2 (by have := HSZ.out; omega) HD3.out HLU1.out).mono ?_
      rintro e w7 ⟨rfl, hb⟩
      replace HG := Lib.hid (HG.out.later hb)
      clear q0 q1 q2 q3 q4
      have q0 := HG.out.q0
      have q1 := HG.out.q1
      have q2 := HG.out.q2
      have q3 := HG.out.q3
      have q4 := HG.out.q4
      clear hb
      go_wp2_with fail
      go_ret
      exact ⟨rfl, HG.out.b⟩
end Go.Proofs.Ytbiecglooagmmaa
