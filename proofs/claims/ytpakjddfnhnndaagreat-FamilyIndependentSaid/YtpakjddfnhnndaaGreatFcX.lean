/-
  The walk of the law FamilyIndependent; a step opened.
  Conditions: none beyond that the arguments can be read.
-/
import Derived.Test.YtpakjddfnhnndaaGreatFcU
namespace Go.Proofs.YtpakjddfnhnndaaGreat
set_option linter.unusedSimpArgs false
set_option linter.unusedVariables false
set_option maxRecDepth 100000
open Go.ChangeShapes Go.WideShapes Go.ChangeAt Go.RowKit Go.Deep Go.Maps

section
variable {H : Type} {enc : TypeId × Value → H} {w : World}
set_option maxRecDepth 100000 in
theorem step_trod {cs : List Value} {fuel : Nat} {x : DataW H × List MemPlace} (h : DataW.trod enc Tryz.prog w 0 (fun _ => true) true fuel 50 cs = some x) :
    ∃ s : Step36, cs = [.int .u8 s.k, .int .u8 s.v, .int .u8 s.o, .int .u8 s.a, .int .u8 s.n, .int .u8 s.s] ∧ s.ok := by
  obtain ⟨xs, m, _, _, hlen, hl, hel⟩ := DataW.trod_struct Tryz.underlying50 h
  rw [show Tryz.prog.cellsOf 50 = 6 by kernel_rfl] at hlen
  have hce : Tryz.prog.cellsOf 5 = 1 := by kernel_rfl
  have hl6 : xs.length = 6 := hl
  match cs, hlen with
  | [c0, c1, c2, c3, c4, c5], _ =>
    have e0 := hel 0 _ rfl
    have e1 := hel 1 _ rfl
    have e2 := hel 2 _ rfl
    have e3 := hel 3 _ rfl
    have e4 := hel 4 _ rfl
    have e5 := hel 5 _ rfl
    have y0 : xs[0]? = some (xs[0]'(by omega)) := List.getElem?_eq_getElem (by omega)
    have y1 : xs[1]? = some (xs[1]'(by omega)) := List.getElem?_eq_getElem (by omega)
    have y2 : xs[2]? = some (xs[2]'(by omega)) := List.getElem?_eq_getElem (by omega)
    have y3 : xs[3]? = some (xs[3]'(by omega)) := List.getElem?_eq_getElem (by omega)
    have y4 : xs[4]? = some (xs[4]'(by omega)) := List.getElem?_eq_getElem (by omega)
    have y5 : xs[5]? = some (xs[5]'(by omega)) := List.getElem?_eq_getElem (by omega)
    rw [y0] at e0
    rw [y1] at e1
    rw [y2] at e2
    rw [y3] at e3
    rw [y4] at e4
    rw [y5] at e5
    obtain ⟨n0, k0, _, w0⟩ := DataW.trod_int Tryz.underlying5 e0
    obtain ⟨n1, k1, _, w1⟩ := DataW.trod_int Tryz.underlying5 e1
    obtain ⟨n2, k2, _, w2⟩ := DataW.trod_int Tryz.underlying5 e2
    obtain ⟨n3, k3, _, w3⟩ := DataW.trod_int Tryz.underlying5 e3
    obtain ⟨n4, k4, _, w4⟩ := DataW.trod_int Tryz.underlying5 e4
    obtain ⟨n5, k5, _, w5⟩ := DataW.trod_int Tryz.underlying5 e5
    replace k0 : [c0] = [.int .u8 n0] := k0
    replace k1 : [c1] = [.int .u8 n1] := k1
    replace k2 : [c2] = [.int .u8 n2] := k2
    replace k3 : [c3] = [.int .u8 n3] := k3
    replace k4 : [c4] = [.int .u8 n4] := k4
    replace k5 : [c5] = [.int .u8 n5] := k5
    injection k0 with k0
    injection k1 with k1
    injection k2 with k2
    injection k3 with k3
    injection k4 with k4
    injection k5 with k5
    subst k0 k1 k2 k3 k4 k5
    exact ⟨⟨n0, n1, n2, n3, n4, n5⟩, rfl, bounds_u8 w0, bounds_u8 w1, bounds_u8 w2, bounds_u8 w3, bounds_u8 w4, bounds_u8 w5⟩
set_option maxRecDepth 100000 in
theorem open_step36 {r : Reach} {b0 : Nat} {v : Value} {d : DataW H} {p : List MemPlace} (hv : Value.okWide Tryz.prog w r b0 50 v) (h : DataW.Trod enc Tryz.prog w 0 (fun _ => true) true 50 v d p) :
    ∃ s : Step36, v = s.val ∧ s.ok := by
  obtain ⟨cs, rfl, hsz, _⟩ : ∃ cs, v = .agg cs ∧ cs.size = Tryz.prog.cellsOf 50 ∧ Row.okWide Tryz.prog w r b0 50 cs := by
    simpa [Value.okWide, Tryz.underlying50] using hv
  obtain ⟨fuel, hf⟩ := h
  obtain ⟨s, hs, hok⟩ := step_trod hf
  refine ⟨s, ?_, hok⟩
  have : cs = #[.int .u8 s.k, .int .u8 s.v, .int .u8 s.o, .int .u8 s.a, .int .u8 s.n, .int .u8 s.s] := by
    apply Array.toList_inj.1
    exact hs
  rw [this]
end
theorem papply_r (F G : Fam) (L : List E) (e0 : Int) (fv : Value) (s : Step36) (w : World) (hF : F.good) (h : FamV w fv F) (hs : s.ok) (he : stepF F s = (G, L, e0)) :
    Calls Tryz.prog 24 #[fv, s.val] w (FamPost3 w G L e0) := by
  have := papply_is F fv s w hF.1 (small_short hF.1 hF.2) h hs
  rwa [he] at this
set_option maxHeartbeats 16000000 in
theorem law_independent36 (i : Int) (S : List Step36) (s : Step36) (a : Option Addr) (c : Nat) (w : World) (hi : 0 ≤ i ∧ i ≤ 255) (hr : RdS36 w a S) (hs : s.ok) :
    Calls Tryz.prog 5 #[.int .u8 i, .slice a S.length c, s.val] w fun e w' => e = .returned (.bool true) ∧ Below w.heap.size w w' := by
  have HSO := Lib.hid hs
  have bk := hs.k
  have bv := hs.v
  clear hs
  have hk0 := (Below.refl w.heap.size w).onAlloc (.cells #[.int .u8 s.k, .int .u8 s.v, .int .u8 s.o, .int .u8 s.a, .int .u8 s.n, .int .u8 s.s] 50)
  have HK0 := Lib.hid hk0
  replace hr := hr.keep hk0
  have HSX := Lib.hid (SX.new w _ rfl s 50)
  clear hk0
  obtain ⟨n, rfl⟩ := Int.eq_ofNat_of_zero_le hi.1
  have hn : n ≤ 255 := by omega
  have hlen := hr.1
  by_cases h25 : 20 < S.length
  · go_enter Tryz.func5, Tryz.ntmps5
    go_wp2_with fail
    refine (awake36_any _).mono ?_
    rintro e w1 ⟨rfl, hb1⟩
    go_wp2_with fail
    go_ret
    exact ⟨rfl, by first | exact hb1 | exact HK0.out.on hb1⟩
  go_enter Tryz.func5, Tryz.ntmps5
  go_wp2_with fail
  refine (awake36_any _).mono ?_
  rintro e w1 ⟨rfl, hb1⟩
  go_wp2_with fail
  refine (build36_is n S a c _ hn (hr.keep hb1)).mono ?_
  rintro e w2 ⟨F, fv, gv, rfl, hgd, hFN, hf, hg, hb2⟩
  obtain ⟨fa, fc, fm, rfl⟩ := hf.form
  obtain ⟨ra, rn, rc, rfl⟩ := hg.form
  have HL := Lib.hid (LB.new hf hg (hb1.on hb2))
  have HBW := Lib.hid (hb1.on hb2)
  have HGD := Lib.hid hgd
  have HS9 := Lib.hid (small_short hgd.1 hgd.2)
  have hm50 : F.N < 50 := by rw [hFN]; omega
  clear hgd hFN hf hg hb1 hb2 hr
  have q0 := (HSX.out.later HL.out.B).s0
  have q1 := (HSX.out.later HL.out.B).s1
  have q2 := (HSX.out.later HL.out.B).s2
  have q3 := (HSX.out.later HL.out.B).s3
  have q4 := (HSX.out.later HL.out.B).s4
  have q5 := (HSX.out.later HL.out.B).s5
  have b0 := HL.out.fb.c0
  have b1 := HL.out.fb.c1
  go_wp2_with fail
  obtain ⟨G, L, x0, hcr⟩ : ∃ G L x0, stepF F s = (G, L, x0) := ⟨_, _, _, rfl⟩
  have HC := Lib.hid hcr
  have HGG : Hid G.good := Lib.hid (by have := good_step HGD.out HSO.out; rw [hcr] at this; exact this)
  have HOT : Hid (x0 = 0 → ∀ v ∈ F.vs, v.nm ≠ nameN s.v ∨ s.k % 8 = 1 → getV G.vs v.nm = some v) := Lib.hid (fun h0 v hv hn => by have := step_other HGD.out.1 (s := s) (by rw [hcr]; exact h0) hv hn; rw [hcr] at this; exact this)
  clear hcr
  refine (papply_r F G L x0 _ s _ HGD.out HL.out.fam HSO.out HC.out).mono ?_
  rintro e w3 ⟨gv, sv, rfl, hg, _, hb⟩
  obtain ⟨ga, gc, gm, rfl⟩ := hg.form
  have hk3 := hb.onAlloc (.cells #[.slice ga G.N gc, .map gm] 28)
  have HX := Lib.hid (Bx.new w3 _ rfl (.slice ga G.N gc) (.map gm) 28)
  have HFG := Lib.hid (hg.keep ((Below.refl w3.heap.size w3).onAlloc (.cells #[.slice ga G.N gc, .map gm] 28)))
  have HSX3 := Lib.hid ((HSX.out.later HL.out.B).later hk3)
  have HL3 := Lib.hid (HL.out.later hk3)
  clear hb hk3 hg q0 q1 q2 q3 q4 q5 b0 b1 HL HSX
  by_cases hx0 : x0 = 0
  · have HOT2 := Lib.hid (HOT.out hx0)
    subst hx0
    obtain ⟨a2, c2, ts, he, hr2, hl2, hts, _⟩ := HL3.out.famr
    obtain ⟨rfl, rfl, rfl⟩ : ra = a2 ∧ rn = ts.length ∧ rc = c2 := by
      injection he with he
      have h1 := congrArg Array.toList he
      simp at h1
      exact h1
    have HR := Lib.hid hr2
    have HLS := Lib.hid hl2
    have HTS := Lib.hid hts
    have h32 := (fit_len HGD.out.1 hts).2
    obtain ⟨cn, hcn, hcl⟩ : ∃ nm, nameN s.v = nm ∧ nm.length ≤ maxLen := ⟨_, rfl, nameN_max _⟩
    have HCN := Lib.hid hcn
    have HGS := Lib.hid (small_short HGG.out.1 HGG.out.2)
    have q1 := HSX3.out.s1
    clear he hr2 hl2 hts hcn HOT
    go_wp2_with fail
    refine (rnames_r s.v cn _ bv HCN.out).mono ?_
    rintro e w4 ⟨rfl, hb⟩
    have HX := Lib.hid (HX.out.later hb)
    have HFG := Lib.hid (HFG.out.keep hb)
    have HSX3 := Lib.hid (HSX3.out.later hb)
    have HL3 := Lib.hid (HL3.out.later hb)
    have HR := Lib.hid (HR.out.keep hb)
    have HLS := Lib.hid (HLS.out.keep hb)
    clear hb q1
    go_wp2_with fail
    go_loopw [14] (fun i wr => ∃ k : Nat, k ≤ ts.length ∧ i = .int .i64 k ∧ Below w4.heap.size w4 wr) (fun i _ => ts.length - (intOf i).toNat)
    case atStart => exact ⟨0, by omega, rfl, Below.refl _ _⟩
    case round =>
      obtain ⟨k, hk, rfl, hB⟩ := hrel
      have HM := Lib.hid (HL3.out.later hB)
      have c0 := HM.out.gb.c0
      have c1 := HM.out.gb.c1
      by_cases hlt : k < ts.length
      · obtain ⟨zb, zo, rfl, hat⟩ := (HR.out.keep hB).at (by omega)
        have hat2 := hat k _ (List.getElem?_eq_getElem hlt)
        have hmem : ts[k].vol ∈ F.vs := by rw [← HTS.out]; exact List.mem_map_of_mem (List.getElem_mem hlt)
        have hrl := (HLS.out.keep hB) _ (List.getElem_mem hlt)
        generalize ts[k] = z at *
        obtain ⟨nm, n, r, za, zc, l⟩ := z
        obtain ⟨e0, e1, e2, e3⟩ := hat2
        have HMEM := Lib.hid hmem
        have HRL := Lib.hid hrl
        have HX5 := Lib.hid (HX.out.later hB)
        have HF5 := Lib.hid (HFG.out.keep hB)
        have HS5 := Lib.hid (HSX3.out.later hB)
        have HBK := Lib.hid hB
        have hk0 : (0 : Int) ≤ k := by omega
        have hk1 : (k : Int) < ts.length := by omega
        have hvk := (Below.refl wr.heap.size wr).onAlloc (.cells #[nmV nm, .int .i64 n, .int .i64 r, .slice za l.length zc] 56)
        have HVX := Lib.hid (VX.new wr _ rfl ⟨nm, n, r, za, zc, l⟩ 56)
        have x0 := HVX.out.x0
        have x1 := HVX.out.x1
        have x2 := HVX.out.x2
        have x3 := HVX.out.x3
        have k9 := (HS5.out.later hvk).s0
        have HV5 := Lib.hid hvk
        clear hat hmem hrl hB hvk HM
        by_cases hsk : nm = cn ∧ ¬ s.k % 8 = 1
        · obtain ⟨hs1, hs2⟩ := hsk
          have d1 : (nm = cn) = True := by simpa using hs1
          have d2 : (s.k % 8 == 1) = false := by simpa using hs2
          have HBE := Lib.hid (HBK.out.on HV5.out)
          have d3 : (nm == cn) = true := by simpa using hs1
          have d4 : (s.k % 8 = 1) = False := by simpa using hs2
          clear hs1 hs2
          go_wp2_with fail
          go_roundw
          case rel => exact ⟨k + 1, by omega, by go_num, HBE.out⟩
          case measure => simp [intOf]; omega
        · have hgv : getV G.vs nm = some ⟨nm, n, r, l⟩ := HOT2.out ⟨nm, n, r, l⟩ HMEM.out (by
            by_cases h : nm = cn
            · exact .inr (by by_cases h2 : s.k % 8 = 1; exact h2; exact absurd ⟨h, h2⟩ hsk)
            · exact .inl (by rw [HCN.out]; exact h))
          have hmg := (getV_mem hgv).1
          have hok := HGG.out.1.vol _ hmg
          have HIF : Hid (infoF G nm = (⟨nm, n, r, lenL l, singleC G.C l⟩, 0)) := Lib.hid (info_of HGG.out.1 hmg)
          have HRG : Hid (rangeF G nm 0 n = (l, 0)) := Lib.hid (range_whole (v := ⟨nm, n, r, l⟩) HGG.out.1 hgv)
          have HNL : Hid (nm.length ≤ maxLen) := Lib.hid (nameB_max hok.name)
          have HNN : Hid (1 ≤ n ∧ n ≤ 65536) := Lib.hid ⟨hok.n1, hok.n2⟩
          have HLL : Hid (l.length ≤ 9000) := Lib.hid (HGS.out _ hmg)
          generalize singleC G.C l = sg at *
          have HX6 := Lib.hid (HX5.out.later HV5.out)
          have HF6 := Lib.hid (HF5.out.keep HV5.out)
          have b0 := HX6.out.c0
          have b1 := HX6.out.c1
          have HRL6 := Lib.hid (HRL.out.keep HV5.out)
          have HB6 := Lib.hid (HBK.out.on HV5.out)
          have hcs : (nm ≠ cn) ∨ (nm = cn ∧ s.k % 8 = 1) := by
            by_cases h : nm = cn
            · exact .inr ⟨h, by by_cases h2 : s.k % 8 = 1; exact h2; exact absurd ⟨h, h2⟩ hsk⟩
            · exact .inl h
          clear hgv hmg hok hsk HX5 HF5 HS5 HBK HRL
          rcases hcs with hcs | ⟨hcs, hcs2⟩
          · have d1 : (nm = cn) = False := by simpa using hcs
            clear hcs
            go_wp2_with fail
            refine (info_r G nm n r (lenL l) sg 0 _ nm _ HGG.out.1 HGS.out HF6.out HNL.out HIF.out).mono ?_
            rintro e w7 ⟨rfl, hb⟩
            have hk7 := hb.onAlloc (.cells #[nmV nm, .int .i64 n, .int .i64 r, .int .i64 (lenL l), .int .i64 sg] 34)
            have HX7 := Lib.hid (HX6.out.later hk7)
            have HF7 := Lib.hid (HF6.out.keep hk7)
            have HV7 := Lib.hid (HVX.out.later hk7)
            have HI7 := Lib.hid (IT.new w7 _ rfl ⟨nm, n, r, lenL l, sg⟩ 34)
            have HL7 := Lib.hid (HRL6.out.keep hk7)
            have HB7 := Lib.hid (HB6.out.on hk7)
            clear hb hk7 b0 b1 x0 x1 x2 x3 HX6 HF6 HVX HRL6 HB6
            have b0 := HX7.out.c0
            have b1 := HX7.out.c1
            have x0 := HV7.out.x0
            have x1 := HV7.out.x1
            go_wp2_with fail
            refine (range_r G l 0 _ nm 0 n _ HGG.out.1 HF7.out HNL.out (by omega) (by have := HNN.out; omega) HRG.out).mono ?_
            rintro e w8 ⟨sv, rfl, ho, hb⟩
            obtain ⟨qa, qc, rfl, hq⟩ := ho.rd (by have := HLL.out; omega)
            have HQ := Lib.hid hq
            have HV8 := Lib.hid (HV7.out.later hb)
            have HI8 := Lib.hid (HI7.out.later hb)
            have HL8 := Lib.hid (HL7.out.keep hb)
            have HB8 := Lib.hid (HB7.out.on hb)
            clear hb ho hq b0 b1 x0 x1 HV7 HI7 HL7 HB7 HF7 HX7
            have i1 := HI8.out.t1
            have i2 := HI8.out.t2
            have x1 := HV8.out.x1
            have x2 := HV8.out.x2
            have x3 := HV8.out.x3
            go_wp2_with fail
            refine (same_is l l qa za qc zc true _ (sameB_refl _) HQ.out HL8.out).mono ?_
            rintro e w9 ⟨rfl, hb⟩
            have HBE := Lib.hid (HB8.out.on hb)
            clear hb i1 i2 x1 x2 x3 HQ HL8 HV8 HI8
            go_wp2_with fail
            go_roundw
            case rel => exact ⟨k + 1, by omega, by go_num, HBE.out⟩
            case measure => simp [intOf]; omega
          · have d1 : (nm = cn) = True := by simpa using hcs
            have d2 : (s.k % 8 == 1) = true := by simpa using hcs2
            have d3 : (nm == cn) = true := by simpa using hcs
            have d4 : (s.k % 8 = 1) = True := by simpa using hcs2
            clear hcs hcs2
            go_wp2_with fail
            refine (info_r G nm n r (lenL l) sg 0 _ nm _ HGG.out.1 HGS.out HF6.out HNL.out HIF.out).mono ?_
            rintro e w7 ⟨rfl, hb⟩
            have hk7 := hb.onAlloc (.cells #[nmV nm, .int .i64 n, .int .i64 r, .int .i64 (lenL l), .int .i64 sg] 34)
            have HX7 := Lib.hid (HX6.out.later hk7)
            have HF7 := Lib.hid (HF6.out.keep hk7)
            have HV7 := Lib.hid (HVX.out.later hk7)
            have HI7 := Lib.hid (IT.new w7 _ rfl ⟨nm, n, r, lenL l, sg⟩ 34)
            have HL7 := Lib.hid (HRL6.out.keep hk7)
            have HB7 := Lib.hid (HB6.out.on hk7)
            clear hb hk7 b0 b1 x0 x1 x2 x3 HX6 HF6 HVX HRL6 HB6
            have b0 := HX7.out.c0
            have b1 := HX7.out.c1
            have x0 := HV7.out.x0
            have x1 := HV7.out.x1
            go_wp2_with fail
            refine (range_r G l 0 _ nm 0 n _ HGG.out.1 HF7.out HNL.out (by omega) (by have := HNN.out; omega) HRG.out).mono ?_
            rintro e w8 ⟨sv, rfl, ho, hb⟩
            obtain ⟨qa, qc, rfl, hq⟩ := ho.rd (by have := HLL.out; omega)
            have HQ := Lib.hid hq
            have HV8 := Lib.hid (HV7.out.later hb)
            have HI8 := Lib.hid (HI7.out.later hb)
            have HL8 := Lib.hid (HL7.out.keep hb)
            have HB8 := Lib.hid (HB7.out.on hb)
            clear hb ho hq b0 b1 x0 x1 HV7 HI7 HL7 HB7 HF7 HX7
            have i1 := HI8.out.t1
            have i2 := HI8.out.t2
            have x1 := HV8.out.x1
            have x2 := HV8.out.x2
            have x3 := HV8.out.x3
            go_wp2_with fail
            refine (same_is l l qa za qc zc true _ (sameB_refl _) HQ.out HL8.out).mono ?_
            rintro e w9 ⟨rfl, hb⟩
            have HBE := Lib.hid (HB8.out.on hb)
            clear hb i1 i2 x1 x2 x3 HQ HL8 HV8 HI8
            go_wp2_with fail
            go_roundw
            case rel => exact ⟨k + 1, by omega, by go_num, HBE.out⟩
            case measure => simp [intOf]; omega
      · obtain rfl : k = ts.length := by omega
        have hB9 := HK0.out.on HM.out.B
        go_wp2_with fail
        go_ret
        exact ⟨rfl, hB9⟩
  · have d0 : (x0 == 0) = false := by simpa using hx0
    have hB9 := HK0.out.on HL3.out.B
    go_wp2_with fail
    go_ret
    exact ⟨rfl, hB9⟩
end Go.Proofs.YtpakjddfnhnndaaGreat
