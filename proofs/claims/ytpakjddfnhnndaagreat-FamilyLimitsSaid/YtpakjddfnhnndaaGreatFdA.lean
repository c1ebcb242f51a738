/-
  The walk of the law FamilyLimits.
  Conditions: none.
-/
import Derived.Test.YtpakjddfnhnndaaGreatFcU
import Derived.Test.YtpakjddfnhnndaaGreatFbE
import Derived.Test.YtpakjddfnhnndaaGreatFbI
namespace Go.Proofs.YtpakjddfnhnndaaGreat
set_option linter.unusedSimpArgs false
set_option linter.unusedVariables false
set_option maxRecDepth 100000
open Go.RowKit Go.Maps

def vN : List UInt8 := [118]
def wN : List UInt8 := [119]
def nmK (j : Nat) : List UInt8 := [118, UInt8.ofNat (97 + j % 26), UInt8.ofNat (48 + j / 26)]
theorem nmK_ok : ∀ j, j < 32 → nameB (nmK j) = true := by decide
theorem nmK_inj : ∀ i, i < 32 → ∀ j, j < 32 → nmK i = nmK j → i = j := by decide
def famK (N : Nat) (n r : Int) : Nat → Fam
  | 0 => ⟨N, [⟨vN, n, r, []⟩]⟩
  | k + 1 => ⟨N, putV (famK N n r k).vs ⟨nmK (k + 1), n, 0, []⟩⟩
structure FK (N : Nat) (n r : Int) (k : Nat) (F : Fam) : Prop where
  ok : F.ok
  N : F.N = N
  v : getV F.vs vN = some ⟨vN, n, r, []⟩
  len : F.vs.length = k + 1
  nms : ∀ w ∈ F.vs, w.l = [] ∧ (w.nm = vN ∨ ∃ j, 1 ≤ j ∧ j ≤ k ∧ w.nm = nmK j)
theorem create_v (N : Nat) (n r : Int) (h : numB n r = true) : createF ⟨N, []⟩ vN n r = (famK N n r 0, 0) := by
  unfold createF
  rw [h]
  rfl
theorem create_no (N : Nat) (n r : Int) (h : numB n r = false) : createF ⟨N, []⟩ vN n r = (zeroF, 1) := by
  unfold createF
  rw [h]
  rfl
theorem fk_zero (N : Nat) (hN : N ≤ 65536) (n r : Int) (h : numB n r = true) : FK N n r 0 (famK N n r 0) := by
  refine ⟨?_, rfl, rfl, rfl, ?_⟩
  · have := ok_create (good_new N hN).1 vN n r
    rw [create_v N n r h] at this
    exact this
  · intro w hw
    simp [famK] at hw
    subst hw
    exact ⟨rfl, .inl rfl⟩
theorem fk_free {N : Nat} {n r : Int} {k : Nat} {F : Fam} (h : FK N n r k F) (hk : k < 31) : getV F.vs (nmK (k + 1)) = none := getV_none.2 fun w hw e => by
  rcases (h.nms w hw).2 with h1 | ⟨j, h1, h2, h3⟩
  · rw [h1] at e
    have := congrArg List.length e
    simp [vN, nmK] at this
  · rw [h3] at e
    have := nmK_inj j (by omega) (k + 1) (by omega) e
    omega
theorem fk_clone {N : Nat} {n r : Int} {k : Nat} (h : FK N n r k (famK N n r k)) (hk : k < 31) : cloneF (famK N n r k) vN (nmK (k + 1)) = (famK N n r (k + 1), 0) := by
  unfold cloneF
  rw [h.v]
  show (if nameB (nmK (k + 1)) = false then _ else _) = _
  rw [if_neg (by rw [nmK_ok _ (by omega)]; decide), fk_free h hk, if_neg (by decide), if_neg (by rw [h.len]; omega)]
  show ((⟨(famK N n r k).N, putV (famK N n r k).vs ⟨nmK (k + 1), n, 0, []⟩⟩ : Fam), (0 : Int)) = _
  rw [h.N]
  rfl
theorem fk_next {N : Nat} {n r : Int} {k : Nat} (h : FK N n r k (famK N n r k)) (hk : k < 31) : FK N n r (k + 1) (famK N n r (k + 1)) := by
  have hfr := fk_free h hk
  refine ⟨?_, rfl, ?_, ?_, ?_⟩
  · have := ok_clone h.ok vN (nmK (k + 1))
    rw [fk_clone h hk] at this
    exact this
  · show getV (putV (famK N n r k).vs _) vN = _
    rw [getV_put h.ok.sorted, if_neg (by intro e; have := congrArg List.length e; simp [vN, nmK] at this), h.v]
  · show (putV (famK N n r k).vs _).length = _
    unfold putV
    rw [length_insV, del_none hfr, h.len]
  · intro w hw
    rcases mem_putV.1 hw with rfl | hw
    · exact ⟨rfl, .inr ⟨k + 1, by omega, Nat.le_refl _, rfl⟩⟩
    · obtain ⟨h1, h2⟩ := h.nms w hw.1
      exact ⟨h1, h2.imp id fun ⟨j, a, b, c⟩ => ⟨j, a, by omega, c⟩⟩
theorem fk_all (N : Nat) (hN : N ≤ 65536) (n r : Int) (h : numB n r = true) : ∀ k, k ≤ 31 → FK N n r k (famK N n r k)
  | 0, _ => fk_zero N hN n r h
  | k + 1, hk => fk_next (fk_all N hN n r h k (by omega)) (by omega)
theorem fk_short {N : Nat} {n r : Int} {k : Nat} {F : Fam} (h : FK N n r k F) : ∀ w ∈ F.vs, w.l.length ≤ 9000 := fun w hw => by
  rw [(h.nms w hw).1]
  simp
theorem fk_full {N : Nat} {n r : Int} (h : FK N n r 31 (famK N n r 31)) : cloneF (famK N n r 31) vN wN = (zeroF, 7) ∧ createF (famK N n r 31) wN 1 0 = (zeroF, 7) := by
  have hw : getV (famK N n r 31).vs wN = none := getV_none.2 fun w hw e => by
    rcases (h.nms w hw).2 with h1 | ⟨j, h1, h2, h3⟩
    · rw [h1] at e; exact absurd e (by decide)
    · rw [h3] at e
      have := congrArg List.length e
      simp [wN, nmK] at this
  constructor
  · unfold cloneF
    rw [h.v]
    show (if nameB wN = false then _ else _) = _
    rw [if_neg (by decide), hw, if_neg (by decide), if_pos (by rw [h.len]; omega)]
  · unfold createF
    rw [if_neg (by decide), hw, if_neg (by decide), if_pos (by rw [h.len]; omega)]
theorem fk_info (N : Nat) (n r : Int) : infoF (famK N n r 0) vN = (⟨vN, n, r, 0, 0⟩, 0) := by
  unfold infoF
  rw [show getV (famK N n r 0).vs vN = some ⟨vN, n, r, []⟩ from rfl]
  show (infoV (famK N n r 0).C ⟨vN, n, r, []⟩, (0 : Int)) = _
  unfold infoV singleC
  rw [area_false _ _ fun i _ => by simp [listB]]
  rfl
set_option maxHeartbeats 2000000 in
theorem fnew_no (n : Int) (w : World) (hn : n < 0 ∨ 65536 < n) : Calls Tryz.prog 18 #[.int .i64 n] w fun e w' => e = .returned (.tuple #[.agg #[.slice none 0 0, .map none], .int .i64 1]) ∧ Below w.heap.size w w' := by
  go_enter Tryz.func18, Tryz.ntmps18
  go_wp2_with fail
  refine (new_no n _ hn).mono ?_
  rintro e w1 ⟨rfl, hb⟩
  have hR := ((RF.new w w 28 (Below.refl _ _)).later hb).later ((Below.refl w1.heap.size w1).onAlloc (.cells #[.slice none 0 0] 25))
  have g0 := hR.r0
  have g1 := hR.r1
  have f0 := hR.f0
  have f1 := hR.f1
  have HR := Lib.hid hR
  clear hb hR
  go_wp2_with fail
  obtain ⟨k0, k1⟩ := HR.out.cells (u := .slice none 0 0) (v := .map none)
  (try simp only [Exit.inBlock, Exit.then])
  refine bodyPost_ret (v := .tuple #[.agg #[.slice none 0 0, .map none], .int .i64 1]) (by first | (rw [results_cell_tmp rfl]; go_simp; done) | (rw [results_cell_tmp2 rfl]; go_simp; done) | (rw [results_cell_one rfl]; go_simp; done)) rfl ?_
  exact ⟨rfl, HR.out.below⟩
theorem IT.far {W : World} {T R : Nat} {i : Info} (h : IT W T i) (hne : T ≠ R) (x y : Value) : IT (fam2 W R x y) T i :=
  ⟨(fam2_far hne).trans h.t0, (fam2_far hne).trans h.t1, (fam2_far hne).trans h.t2, (fam2_far hne).trans h.t3, (fam2_far hne).trans h.t4, by rw [World.frozen?_setCell, World.frozen?_setCell]; exact h.g4⟩
theorem vN_max : vN.length ≤ maxLen := by decide
theorem wN_max : wN.length ≤ maxLen := by decide
set_option maxHeartbeats 16000000 in
theorem law_limits36 (s n r : Int) (w : World) (hs : -9223372036854775808 ≤ s ∧ s ≤ 9223372036854775807) (hn : -9223372036854775808 ≤ n ∧ n ≤ 9223372036854775807) (hr : -9223372036854775808 ≤ r ∧ r ≤ 9223372036854775807) :
    Calls Tryz.prog 3 #[.int .i64 s, .int .i64 n, .int .i64 r] w fun e w' => e = .returned (.bool true) ∧ Below w.heap.size w w' := by
  by_cases hsl : s < 0 ∨ 65536 < s
  · go_enter Tryz.func3, Tryz.ntmps3
    go_wp2_with fail
    refine (awake36_any _).mono ?_
    rintro e w1 ⟨rfl, hb1⟩
    go_wp2_with fail
    refine (fnew_no s _ hsl).mono ?_
    rintro e w2 ⟨rfl, hb2⟩
    have hB := (hb1.on hb2).onAlloc (.cells #[.slice none 0 0, .map none] 28)
    clear hb1 hb2
    rcases hsl with h1 | h1
    · go_wp2_with fail
      go_ret
      exact ⟨rfl, hB⟩
    · have h2 : ¬ s < 0 := by omega
      go_wp2_with fail
      go_ret
      exact ⟨rfl, hB⟩
  · obtain ⟨N, rfl⟩ := Int.eq_ofNat_of_zero_le (a := s) (by omega)
    have hN : N ≤ 65536 := by omega
    obtain ⟨F0, hF0⟩ : ∃ F, F = (⟨N, []⟩ : Fam) := ⟨_, rfl⟩
    have HF0 := Lib.hid hF0
    have hok0 : F0.ok := by rw [hF0]; exact (good_new N hN).1
    clear hsl hs hF0
    go_enter Tryz.func3, Tryz.ntmps3
    go_wp2_with fail
    refine (awake36_any _).mono ?_
    rintro e w1 ⟨rfl, hb1⟩
    go_wp2_with fail
    refine (fnew_yes N _ hN).mono ?_
    rintro e w2 ⟨fv, rfl, hf, hb2⟩
    have hf : FamV w2 fv F0 := by rw [HF0.out]; exact hf
    obtain ⟨fa, fc, fm, rfl⟩ := hf.form
    have HA := Lib.hid (AwS.new hf (hb1.on hb2))
    clear hf hb1 hb2
    have b0 := HA.out.bx.c0
    have b1 := HA.out.bx.c1
    have f0 := HA.out.bx.f0
    have f1 := HA.out.bx.f1
    go_wp2_with fail
    cases hnb : numB n r
    · have HC : Hid (createF F0 vN n r = (zeroF, 1)) := Lib.hid (by rw [HF0.out]; exact create_no N n r hnb)
      have hq : ¬ (1 ≤ n ∧ n ≤ 65536 ∧ 0 ≤ r ∧ r ≤ n) := of_decide_eq_false hnb
      clear hnb
      refine (create_r F0 zeroF 1 _ vN n r _ hok0 HA.out.fam vN_max HC.out).mono ?_
      rintro e w3 ⟨gv, rfl, hg, hb⟩
      obtain ⟨ga, gc, gm, rfl⟩ := hg.form
      have HB := Lib.hid ((HA.out.B.on hb).onAlloc (.cells #[.slice ga zeroF.N gc, .map gm] 28))
      have HQ := Lib.hid hq
      clear hg hb hq HA b0 b1 f0 f1
      go_wp2_with fail
      all_goals first
        | (exfalso; have := HQ.out; omega)
        | (go_ret; exact ⟨rfl, HB.out⟩)
    · have HC : Hid (createF F0 vN n r = (famK N n r 0, 0)) := Lib.hid (by rw [HF0.out]; exact create_v N n r hnb)
      obtain ⟨q1, q2, q3, q4⟩ : 1 ≤ n ∧ n ≤ 65536 ∧ 0 ≤ r ∧ r ≤ n := of_decide_eq_true hnb
      have HK := Lib.hid (fk_all N hN n r hnb)
      clear hnb
      refine (create_r F0 (famK N n r 0) 0 _ vN n r _ hok0 HA.out.fam vN_max HC.out).mono ?_
      rintro e w3 ⟨gv, rfl, hg, hb⟩
      obtain ⟨ga, gc, gm, rfl⟩ := hg.form
      have HG := Lib.hid (AwS.new hg (HA.out.B.on hb))
      clear hg hb HA b0 b1 f0 f1
      have b0 := HG.out.bx.c0
      have b1 := HG.out.bx.c1
      have f0 := HG.out.bx.f0
      have f1 := HG.out.bx.f1
      go_wp2_with fail
      refine (info_r (famK N n r 0) vN n r 0 0 0 _ vN _ (HK.out 0 (by omega)).ok (fk_short (HK.out 0 (by omega))) HG.out.fam vN_max (fk_info N n r)).mono ?_
      rintro e w4 ⟨rfl, hb⟩
      have hk := hb.onAlloc (.cells #[nmV vN, .int .i64 n, .int .i64 r, .int .i64 0, .int .i64 0] 34)
      have HI := Lib.hid (IT.new w4 _ rfl ⟨vN, n, r, 0, 0⟩ 34)
      have HTI : Hid (w3.heap.size < w4.heap.size) := Lib.hid (by have := (HG.out.later hb).bx.lt; exact this)
      have HG := Lib.hid (HG.out.later hk)
      clear hb hk b0 b1 f0 f1
      go_wp2_with fail
      generalize w4.alloc (.cells #[nmV vN, .int .i64 n, .int .i64 r, .int .i64 0, .int .i64 0] 34) = W5 at *
      generalize w4.heap.size = TI at *
      generalize w3.heap.size = T at *
      go_loopw [13] (fun i wr => ∃ (m : Nat) (u v : Value), m ≤ 31 ∧ i = .int .i64 ((m : Int) + 1) ∧ AwS w wr T u v (famK N n r m) ∧ IT wr TI ⟨vN, n, r, 0, 0⟩) (fun i _ => 32 - (intOf i).toNat)
      case atStart => exact ⟨0, _, _, by omega, rfl, HG.out, HI.out⟩
      case round =>
        clear HG HI
        obtain ⟨m, u, v, hm, rfl, hA, hI⟩ := hrel
        obtain ⟨ga, gc, gm, he⟩ := hA.fam.form
        obtain ⟨rfl, rfl⟩ : u = .slice ga (famK N n r m).N gc ∧ v = .map gm := by
          injection he with he
          have h1 := congrArg Array.toList he
          simp at h1
          exact h1
        have HA := Lib.hid hA
        have HI := Lib.hid hI
        clear hA hI he
        have b0 := HA.out.bx.c0
        have b1 := HA.out.bx.c1
        by_cases hlt : m < 31
        · obtain ⟨bs, hbs⟩ : ∃ bs, bs = [UInt8.ofNat (97 + (m + 1) % 26), UInt8.ofNat (48 + (m + 1) / 26)] := ⟨_, rfl⟩
          have hcv : (convert 38 9 (.slice (some ⟨wr.heap.size, 0, none⟩) 2 2)).run Tryz.prog (wr.alloc (.cells #[.int .u8 (97 + ((m : Int) + 1) % 26), .int .u8 (48 + ((m : Int) + 1) / 26)] 5)) = .ok (nmV bs) (wr.alloc (.cells #[.int .u8 (97 + ((m : Int) + 1) % 26), .int .u8 (48 + ((m : Int) + 1) / 26)] 5)) := by
            rw [hbs]
            exact run_convert_bytes_back (P := Tryz.prog) _ 38 9 5 ⟨wr.heap.size, 0, none⟩ 2 [UInt8.ofNat (97 + (m + 1) % 26), UInt8.ofNat (48 + (m + 1) / 26)] Tryz.underlying38 Tryz.underlying5 Tryz.underlying9 (fun j hj => by
              simp at hj
              rcases (by omega : j = 0 ∨ j = 1) with rfl | rfl
              · simp [Addr.add]
                omega
              · simp [Addr.add]
                omega)
          have HBS : Hid (nmK (m + 1) = 118 :: bs) := Lib.hid (by rw [hbs]; rfl)
          have hsz : (ByteArray.mk bs.toArray).size = 2 := by rw [hbs]; rfl
          clear hbs
          have HCAT : Hid (({ data := #[118] } : ByteArray) ++ { data := bs.toArray } = ⟨(nmK (m + 1)).toArray⟩) := Lib.hid (by
            rw [HBS.out]
            apply ByteArray.ext
            simp)
          have hNK : (nmK (m + 1)).length ≤ maxLen := by simp [nmK, maxLen]
          go_wp2_with fail
          rw [HCAT.out]
          have hka := (Below.refl wr.heap.size wr).onAlloc (.cells #[.int .u8 (97 + ((m : Int) + 1) % 26), .int .u8 (48 + ((m : Int) + 1) / 26)] 5)
          have HA := Lib.hid (HA.out.later hka)
          have HI := Lib.hid (HI.out.later hka)
          clear hka
          refine (clone_r (famK N n r m) (famK N n r (m + 1)) 0 _ vN (nmK (m + 1)) _ (HK.out m hm).ok (fk_short (HK.out m hm)) HA.out.fam vN_max hNK (fk_clone (HK.out m hm) hlt)).mono ?_
          rintro e w6 ⟨gv, rfl, hg, hb⟩
          obtain ⟨ya, yc, ym, rfl⟩ := hg.form
          have HA := Lib.hid (HA.out.later hb)
          have HI := Lib.hid (HI.out.later hb)
          have HP := Lib.hid (HA.out.put hg)
          have HIP := Lib.hid (HI.out.far (R := T) (by have := HTI.out; omega) (.slice ya (famK N n r (m + 1)).N yc) (.map ym))
          clear hb hg b0 b1 hcv
          have b0 := HA.out.bx.c0
          have b1 := HA.out.bx.c1
          have f0 := HA.out.bx.f0
          have f1 := HA.out.bx.f1
          go_wp2_with fail
          go_roundw
          case rel => exact ⟨m + 1, _, _, by omega, by go_num, HP.out, HIP.out⟩
          case measure => simp [intOf]; omega
        · obtain rfl : m = 31 := by omega
          have HF31 := Lib.hid (fk_full (HK.out 31 (by omega)))
          have HK31 := Lib.hid (HK.out 31 (by omega))
          generalize famK N n r 31 = G at *
          go_wp2_with fail
          refine (clone_r G zeroF 7 _ vN wN _ HK31.out.ok (fk_short HK31.out) HA.out.fam vN_max wN_max HF31.out.1).mono ?_
          rintro e w6 ⟨gv, rfl, hg, hb⟩
          obtain ⟨ya, yc, ym, rfl⟩ := hg.form
          have hk := hb.onAlloc (.cells #[.slice ya zeroF.N yc, .map ym] 28)
          have HA := Lib.hid (HA.out.later hk)
          have HI := Lib.hid (HI.out.later hk)
          clear hb hk hg b0 b1
          have b0 := HA.out.bx.c0
          have b1 := HA.out.bx.c1
          go_wp2_with fail
          refine (create_r G zeroF 7 _ wN 1 0 _ HK31.out.ok HA.out.fam wN_max HF31.out.2).mono ?_
          rintro e w7 ⟨gv, rfl, hg, hb⟩
          obtain ⟨xa, xc, xm, rfl⟩ := hg.form
          have hk := hb.onAlloc (.cells #[.slice xa zeroF.N xc, .map xm] 28)
          have HA := Lib.hid (HA.out.later hk)
          have HI := Lib.hid (HI.out.later hk)
          clear hb hk hg b0 b1
          have b0 := HA.out.bx.c0
          have b1 := HA.out.bx.c1
          go_wp2_with fail
          refine (fnames_is G _ _ HK31.out.ok HA.out.fam).mono ?_
          rintro e w8 ⟨nv, rfl, hns, hb⟩
          obtain ⟨na, nc, rfl, hnr⟩ := hns.rd
          have HNR : Hid (NmsR w8 na (G.vs.map (·.nm))) := Lib.hid hnr
          rw [List.length_map, show G.vs.length = 32 from HK31.out.len]
          have HA := Lib.hid (HA.out.later hb)
          have HI := Lib.hid (HI.out.later hb)
          clear hnr hns hb b0 b1
          have i0 : w8.cell? ⟨TI, 0, none⟩ = some (.string ⟨#[118]⟩) := HI.out.t0
          have i1 := HI.out.t1
          have i2 := HI.out.t2
          have i3 := HI.out.t3
          have i4 := HI.out.t4
          obtain ⟨ns, hns9⟩ : ∃ ns, ns = G.vs.map (·.nm) := ⟨_, rfl⟩
          have hnr9 : NmsR w8 na ns := by rw [hns9]; exact HNR.out
          have HSRT : Hid (∀ k (h1 : k + 1 < ns.length), Op.bytesLess (ns[k]'(by omega)) ns[k + 1] = true) := Lib.hid (by
            subst hns9
            intro k h1
            have hp := HK31.out.ok.sorted
            rw [less_before]
            exact List.pairwise_iff_getElem.1 (List.pairwise_map.2 hp : (G.vs.map (·.nm)).Pairwise fun a b => bytesBefore a b = true) k (k + 1) (by omega) h1 (by omega))
          have HLN : Hid (ns.length = 32) := Lib.hid (by rw [hns9, List.length_map]; exact HK31.out.len)
          replace HNR := Lib.hid hnr9
          clear hns9 hnr9
          go_wp2_with fail
          clear i0 i1 i2 i3 i4
          have HBA := Lib.hid HA.out.B
          go_loopw [20] (fun i wr => ∃ k : Nat, k ≤ 31 ∧ i = .int .i64 ((k : Int) + 1) ∧ Below w8.heap.size w8 wr) (fun i _ => 32 - (intOf i).toNat)
          case atStart => exact ⟨0, by omega, rfl, Below.refl _ _⟩
          case round =>
            obtain ⟨k, hk, rfl, hB⟩ := hrel
            have HB0 := Lib.hid hB
            by_cases hlt : k < 31
            · have hk1 : k + 1 < ns.length := by rw [HLN.out]; omega
              have hnk : NmsR wr na ns := HNR.out.keep hB
              obtain ⟨g, hna, hnm⟩ := hnk.resolve_left (fun e => by rw [e] at hk1; simp at hk1)
              have n0 := hnm k _ (List.getElem?_eq_getElem (by omega))
              have n1 := hnm (k + 1) _ (List.getElem?_eq_getElem hk1)
              have hbl := HSRT.out k hk1
              generalize ns[k]'(by omega) = x at *
              generalize ns[k + 1] = y at *
              subst hna
              have hq1 : IntKind.i64.wrap ((k : Int) + 1 - 1) = k := by rw [show (k : Int) + 1 - 1 = k by omega]; exact IntWalk.i64_in _ (by omega)
              have hk0 : (0 : Int) ≤ k := by omega
              have hk2 : (k : Int) < 32 := by omega
              have hk3 : (0 : Int) ≤ (k : Int) + 1 := by omega
              have hk4 : (k : Int) + 1 < 32 := by omega
              clear hB hnk hnm hk1
              go_wp2_with fail
              refine wp_region_next (by kernel_rfl) (by kernel_rfl) ?_
              repeat (go_big_quiet_step (fail))
              refine wpQuiet_nil ?_
              intro _ hw'
              obtain ⟨nq, hw''⟩ := hw'
              subst hw''
              have HBE := Lib.hid (HB0.out.on (World.below_next wr nq))
              clear n0 n1
              go_wp2_with fail
              go_roundw
              case rel => exact ⟨k + 1, by omega, by go_num, HBE.out⟩
              case measure => simp [intOf]; omega
            · obtain rfl : k = 31 := by omega
              have hB9 := HBA.out.on hB
              go_wp2_with fail
              go_ret
              exact ⟨rfl, hB9⟩
end Go.Proofs.YtpakjddfnhnndaaGreat
