/-
  The law ScanFinds: its walk.
  Conditions: as the theorem says.
-/
import Derived.Test.YtbiecglooagmmaaScV
import Derived.Test.YtbiecglooagmmaaScW
namespace Go.Proofs.Ytbiecglooagmmaa
set_option linter.unusedSimpArgs false
set_option linter.unusedVariables false
set_option maxRecDepth 100000
open Go.RowKit

set_option maxHeartbeats 8000000 in
theorem law_finds17 (g : Geo) (S : List SV) (bl : Int) (a : Option Addr) (c : Nat) (w : World) (hl : S.length ≤ c ∧ c ≤ 9223372036854775807) (hr : RdZ0 w a S) (_hbl : -9223372036854775808 ≤ bl ∧ bl ≤ 9223372036854775807) :
    Calls Try.prog 3 #[g.v, .slice a S.length c, .int .i64 bl] w fun e w' => e = .returned (.bool true) ∧ Below w.heap.size w w' := by
  have HA := Lib.hid (fun W => awake17_any W)
  have HFR := Lib.hid (fun W (hb : Below w.heap.size w W) => fair_any g S a c W (by omega) (hr.keep hb))
  obtain ⟨fb, hfb⟩ : ∃ fb, fairB g S = fb := ⟨_, rfl⟩
  have HSM : Hid (fb = true → RdZ w a S) := Lib.hid (fun h => by
    rw [← hfb] at h
    obtain ⟨h1, h2⟩ := fairB_yes h
    exact hr.small h1 h2)
  have HPY := Lib.hid (fun W (h1 : g.ok = true) (h2 : RdZ w a S) (hb : Below w.heap.size w W) => pscan_q g bl S a c W h1 (h2.keep hb) hl.1)
  have HRY := Lib.hid (fun W (h1 : g.ok = true) (h2 : RdZ w a S) (hb : Below w.heap.size w W) => rscan_q g bl S a c W h1 (h2.keep hb))
  have HPN := Lib.hid (fun W (h1 : g.ok = false) => pscan_no g bl S.length c a W h1)
  have HRN := Lib.hid (fun W (h1 : g.ok = false) => rscan_no g bl S.length c a W h1)
  have HLL : Hid (g.ok = true → (LL g bl S).length ≤ 65536) := Lib.hid (fun h => by rw [LL_len]; have := Geo.bd h; omega)
  rw [hfb] at HFR
  obtain ⟨gk, hgk⟩ : ∃ b, g.ok = b := ⟨_, rfl⟩
  rw [hgk] at HPY HRY HPN HRN HLL
  generalize FF g bl S = F at *
  generalize LL g bl S = L at *
  obtain ⟨gr, gb, gt, gs, go⟩ := g
  unfold ScanQ at HPY HRY
  unfold Geo.v at *
  simp only at HFR HPY HRY HPN HRN ⊢
  have HG := Lib.hid (GX.init w gr gb gt gs go)
  clear hfb hgk hl hr
  have q0 := HG.out.q0
  have q1 := HG.out.q1
  have q2 := HG.out.q2
  have q3 := HG.out.q3
  have q4 := HG.out.q4
  go_enter Try.func3, Try.ntmps3
  go_wp2_with fail
  refine (HA.out _).mono ?_
  rintro e w1 ⟨rfl, hb⟩
  replace HG := Lib.hid (HG.out.later hb)
  clear q0 q1 q2 q3 q4
  have q0 := HG.out.q0
  have q1 := HG.out.q1
  have q2 := HG.out.q2
  have q3 := HG.out.q3
  have q4 := HG.out.q4
  clear hb
  go_wp2_with fail
  refine (HFR.out _ HG.out.b).mono ?_
  rintro e w2 ⟨rfl, hb⟩
  replace HG := Lib.hid (HG.out.later hb)
  clear q0 q1 q2 q3 q4
  have q0 := HG.out.q0
  have q1 := HG.out.q1
  have q2 := HG.out.q2
  have q3 := HG.out.q3
  have q4 := HG.out.q4
  clear hb HFR
  cases fb with
  | false =>
    go_wp2_with fail
    refine (HA.out _).mono ?_
    rintro e w9 ⟨rfl, hb9⟩
    replace HG := Lib.hid (HG.out.later hb9)
    clear hb9 q0 q1 q2 q3 q4
    go_wp2_with fail
    go_ret
    exact ⟨rfl, HG.out.b⟩
  | true =>
    have HR := Lib.hid (HSM.out (by first | rfl | trivial))
    clear HSM
    by_cases hb1 : 1000 < bl
    · have hd : decide (1000 < bl) = true := by simpa using hb1
      go_wp2_with fail
      refine (HA.out _).mono ?_
      rintro e w9 ⟨rfl, hb9⟩
      replace HG := Lib.hid (HG.out.later hb9)
      clear hb9 q0 q1 q2 q3 q4
      go_wp2_with fail
      go_ret
      exact ⟨rfl, HG.out.b⟩
    · have hd : decide (1000 < bl) = false := by simpa using hb1
      go_wp2_with fail
      cases gk with
      | false =>
        refine (HPN.out _ (by first | rfl | trivial)).mono ?_
        rintro e w3 ⟨rfl, hb⟩
        replace HG := Lib.hid (HG.out.later hb)
        clear q0 q1 q2 q3 q4
        have q0 := HG.out.q0
        have q1 := HG.out.q1
        have q2 := HG.out.q2
        have q3 := HG.out.q3
        have q4 := HG.out.q4
        clear hb
        go_wp2_with fail
        refine (HRN.out _ (by first | rfl | trivial)).mono ?_
        rintro e w4 ⟨rfl, hb⟩
        replace HG := Lib.hid (HG.out.later hb)
        clear q0 q1 q2 q3 q4
        have q0 := HG.out.q0
        have q1 := HG.out.q1
        have q2 := HG.out.q2
        have q3 := HG.out.q3
        have q4 := HG.out.q4
        clear hb
        go_wp2_with fail
        refine (rsame_yes 0 [] none none 0 0 _ ⟨by simp, .inl rfl⟩ ⟨by simp, .inl rfl⟩).mono ?_
        rintro e w5 ⟨rfl, hb⟩
        replace HG := Lib.hid (HG.out.later hb)
        clear q0 q1 q2 q3 q4
        have q0 := HG.out.q0
        have q1 := HG.out.q1
        have q2 := HG.out.q2
        have q3 := HG.out.q3
        have q4 := HG.out.q4
        clear hb
        go_wp2_with fail
        refine (bsame_nil _).mono ?_
        rintro e w6 ⟨rfl, hb⟩
        replace HG := Lib.hid (HG.out.later hb)
        clear q0 q1 q2 q3 q4
        have q0 := HG.out.q0
        have q1 := HG.out.q1
        have q2 := HG.out.q2
        have q3 := HG.out.q3
        have q4 := HG.out.q4
        clear hb
        go_wp2_with fail
        go_ret
        exact ⟨rfl, HG.out.b⟩
      | true =>
        have HL := Lib.hid (HLL.out (by first | rfl | trivial))
        refine (HPY.out _ (by first | rfl | trivial) HR.out HG.out.b).mono ?_
        rintro e w3 ⟨fa, fc, G1, rfl, hf1, hd1, _, hb⟩
        replace HG := Lib.hid (HG.out.later hb)
        clear q0 q1 q2 q3 q4
        have q0 := HG.out.q0
        have q1 := HG.out.q1
        have q2 := HG.out.q2
        have q3 := HG.out.q3
        have q4 := HG.out.q4
        clear hb
        go_wp2_with fail
        refine (HRY.out _ (by first | rfl | trivial) HR.out HG.out.b).mono ?_
        rintro e w4 ⟨fa2, fc2, G2, rfl, hf2, hd2, _, hb⟩
        replace hf1 := hf1.keep hb
        replace hd1 := hd1.keep hb
        replace HG := Lib.hid (HG.out.later hb)
        clear q0 q1 q2 q3 q4
        have q0 := HG.out.q0
        have q1 := HG.out.q1
        have q2 := HG.out.q2
        have q3 := HG.out.q3
        have q4 := HG.out.q4
        have HF1 := Lib.hid hf1
        have HD1 := Lib.hid hd1
        have HF2 := Lib.hid hf2
        have HD2 := Lib.hid hd2
        clear hb hf1 hd1 hf2 hd2
        go_wp2_with fail
        refine (rsame_yes gr F fa fa2 fc fc2 _ HF1.out HF2.out).mono ?_
        rintro e w5 ⟨rfl, hb⟩
        have HD3 := Lib.hid (HD1.out.keep hb)
        have HD4 := Lib.hid (HD2.out.keep hb)
        replace HG := Lib.hid (HG.out.later hb)
        clear q0 q1 q2 q3 q4
        have q0 := HG.out.q0
        have q1 := HG.out.q1
        have q2 := HG.out.q2
        have q3 := HG.out.q3
        have q4 := HG.out.q4
        clear hb
        go_wp2_with fail
        refine (bsame_yes L G1 G2 L.length L.length _ HL.out HD3.out HD4.out).mono ?_
        rintro e w6 ⟨rfl, hb⟩
        replace HG := Lib.hid (HG.out.later hb)
        clear q0 q1 q2 q3 q4
        have q0 := HG.out.q0
        have q1 := HG.out.q1
        have q2 := HG.out.q2
        have q3 := HG.out.q3
        have q4 := HG.out.q4
        clear hb
        go_wp2_with fail
        go_ret
        exact ⟨rfl, HG.out.b⟩
end Go.Proofs.Ytbiecglooagmmaa
