/-
  tegularef36: Names, Free, Lookup, Range.
  Conditions: as each theorem says.
-/
import Derived.Test.YtpakjddfnhnndaaGreatGN
import Derived.Test.YtpakjddfnhnndaaGreatGG
namespace Go.Proofs.YtpakjddfnhnndaaGreat
set_option linter.unusedSimpArgs false
set_option linter.unusedVariables false
set_option maxRecDepth 100000
open Go.RowKit Go.Maps

set_option maxHeartbeats 2000000 in
theorem rnames_is (n : Int) (w : World) (hn : 0 ≤ n ∧ n ≤ 255) : Calls Tryz.prog 25 #[.int .u8 n] w fun e w' => e = .returned (nmV (nameN n)) ∧ Below w.heap.size w w' := by
  have hcv : (convert 38 9 (.slice (some ⟨w.heap.size, 0, none⟩) 1 1)).run Tryz.prog (w.alloc (.cells #[.int .u8 (97 + n % 6)] 5)) = .ok (nmV [UInt8.ofNat (97 + (n % 6).toNat)]) (w.alloc (.cells #[.int .u8 (97 + n % 6)] 5)) := run_convert_bytes_back (P := Tryz.prog) (w.alloc (.cells #[.int .u8 (97 + n % 6)] 5)) 38 9 5 ⟨w.heap.size, 0, none⟩ 1 [UInt8.ofNat (97 + (n % 6).toNat)] Tryz.underlying38 Tryz.underlying5 Tryz.underlying9 (fun j hj => by
    simp at hj
    subst hj
    simp [Addr.add]
    omega)
  by_cases h5 : n % 6 = 5
  · have e : nameN n = noName := if_pos h5
    rw [e]
    clear e hcv
    go_enter Tryz.func25, Tryz.ntmps25
    go_wp2
    go_ret
    exact ⟨rfl, Below.refl _ _⟩
  · have e : nameN n = [UInt8.ofNat (97 + (n % 6).toNat)] := if_neg h5
    rw [← e] at hcv
    clear e
    generalize nameN n = ns at hcv ⊢
    have d5 : (n % 6 == 5) = false := by simpa using h5
    go_enter Tryz.func25, Tryz.ntmps25
    go_wp2_with fail
    go_ret
    exact ⟨rfl, (Below.refl _ _).onAlloc _⟩
set_option maxHeartbeats 2000000 in
theorem rfree_is (F : Fam) (gv : Value) (w : World) (hF : F.ok) (h : FamR w gv F) : Calls Tryz.prog 81 #[gv] w fun e w' => ∃ sv, e = .returned sv ∧ OwnE w' w.heap.size sv (zeroL F.C) ∧ Below w.heap.size w w' := by
  obtain ⟨a, c, ts, rfl, hr, hl, hts, _⟩ := h
  have hb := (Below.refl w.heap.size w).onAlloc (.cells #[.int .i64 F.N, .slice a ts.length c] 45)
  have HB := Lib.hid hb
  have HCN := Lib.hid (rcounts_of F F.C rfl ts a c _ hF hts (hr.keep hb) (hl.keep hb))
  have hN := hF.hN
  clear hb hr hl hts hF
  go_enter Tryz.func81, Tryz.ntmps81
  go_wp2_with fail
  refine HCN.out.mono ?_
  rintro e w1 ⟨v, rfl, ho, hb⟩
  obtain ⟨ca, cc, rfl, hrc⟩ := ho.rd (by rw [F.C_length]; exact hN)
  have HRC := Lib.hid hrc
  have HB1 := Lib.hid (HB.out.on hb)
  clear hrc ho hb
  go_wp2_with fail
  refine (rzero_any F.C ca cc _ HRC.out).mono ?_
  rintro e w2 ⟨v, rfl, ho, hb⟩
  have hsz := HB1.out.size
  go_wp2_with fail
  go_ret
  exact ⟨_, rfl, ho.mono hsz, HB1.out.on hb⟩

/-- The head of a method of the reference's family without a family as its result. -/
structure BH (w W : World) (a : Option Addr) (n : Int) (m c : Nat) : Prop where
  b0 : W.cell? ⟨w.heap.size, 0, none⟩ = some (.int .i64 n)
  b1 : W.cell? ⟨w.heap.size, 1, none⟩ = some (.slice a m c)
  B : Below w.heap.size w W
theorem BH.later {w W W' : World} {a : Option Addr} {n : Int} {m c : Nat} (h : BH w W a n m c) (hb : Below W.heap.size W W') : BH w W' a n m c := ⟨hb.keep h.b0, hb.keep h.b1, h.B.on hb⟩
theorem BH.init (w : World) (a : Option Addr) (n : Int) (m c : Nat) : BH w (w.alloc (.cells #[.int .i64 n, .slice a m c] 45)) a n m c := ⟨by simp, by simp, (Below.refl _ _).onAlloc _⟩
theorem range_cases (F : Fam) (nm : List UInt8) (p n : Int) :
    (getV F.vs nm = none ∧ rangeF F nm p n = ([], 9)) ∨ ∃ v, getV F.vs nm = some v ∧
      ((inB p n v.n = false ∧ rangeF F nm p n = ([], 2)) ∨ (inB p n v.n = true ∧ rangeF F nm p n = (inL v.l p n, 0))) := by
  unfold rangeF
  cases hg : getV F.vs nm with
  | none => exact .inl ⟨rfl, rfl⟩
  | some v =>
    refine .inr ⟨v, rfl, ?_⟩
    cases hn : inB p n v.n
    · exact .inl ⟨rfl, by simp [hn]⟩
    · exact .inr ⟨rfl, by simp [hn]⟩
theorem lookup_cases (F : Fam) (nm : List UInt8) (p : Int) :
    (getV F.vs nm = none ∧ lookupF F nm p = (0, false, 9)) ∨ ∃ v, getV F.vs nm = some v ∧
      (((p < 0 ∨ v.n ≤ p) ∧ lookupF F nm p = (0, false, 2)) ∨ (0 ≤ p ∧ p < v.n ∧ lookupF F nm p = (findS v.l p, findB v.l p, 0))) := by
  unfold lookupF
  cases hg : getV F.vs nm with
  | none => exact .inl ⟨rfl, rfl⟩
  | some v =>
    refine .inr ⟨v, rfl, ?_⟩
    cases hn : inB p 1 v.n
    · have : ¬ (0 ≤ p ∧ 0 ≤ (1 : Int) ∧ p ≤ v.n ∧ 1 ≤ v.n - p) := of_decide_eq_false hn
      exact .inl ⟨by omega, by simp [hn]⟩
    · have := (inB_iff _ _ _).1 hn
      exact .inr ⟨by omega, by omega, by simp [hn]⟩
set_option maxHeartbeats 8000000 in
theorem rrange_is (F : Fam) (gv : Value) (nm : List UInt8) (p n : Int) (w : World) (hF : F.ok) (h : FamR w gv F) (hnm : nm.length ≤ maxLen) :
    Calls Tryz.prog 38 #[gv, nmV nm, .int .i64 p, .int .i64 n] w fun e w' => ∃ sv, e = .returned (.tuple #[sv, .int .i64 (rangeF F nm p n).2]) ∧ OwnE w' w.heap.size sv (rangeF F nm p n).1 ∧ Below w.heap.size w w' := by
  obtain ⟨a, c, ts, rfl, hr, hl, hts, _⟩ := h
  have h32 := (fit_len hF hts).2
  have HH := Lib.hid (BH.init w a F.N ts.length c)
  have HR := Lib.hid hr
  have HL := Lib.hid hl
  have HTS := Lib.hid hts
  have HF := Lib.hid hF
  clear hr hl hts hF
  rcases range_cases F nm p n with ⟨hg, hc⟩ | ⟨v, hg, ⟨hn, hc⟩ | ⟨hn, hc⟩⟩
  · rw [hc]
    have HAT := Lib.hid (at_none HTS.out hg)
    clear hg hc
    go_enter Tryz.func38, Tryz.ntmps38
    go_wp2_with fail
    refine (rat_r F.N ts nm a c _ (HR.out.keep HH.out.B) _ HAT.out).mono ?_
    rintro e w1 ⟨rfl, hb⟩
    have HH := Lib.hid (HH.out.later hb)
    clear hb
    have b0 := HH.out.b0
    have b1 := HH.out.b1
    go_wp2_with fail
    go_ret2
    exact ⟨_, rfl, OwnE.nil _ _, HH.out.B⟩
  · rw [hc]
    obtain ⟨k, hk, hat, hv, hkn⟩ := at_some HTS.out hg
    have hok := HF.out.vol v (getV_mem hg).1
    have HAT := Lib.hid hat
    have HMEM := Lib.hid (List.getElem_mem hk)
    have HGET := Lib.hid (List.getElem?_eq_getElem hk)
    clear hkn
    generalize ts[k] = x at *
    subst hv
    have HOK := Lib.hid hok
    clear hg hc hat hok
    have HIN := Lib.hid hn
    clear hn
    go_enter Tryz.func38, Tryz.ntmps38
    go_wp2_with fail
    refine (rat_r F.N ts nm a c _ (HR.out.keep HH.out.B) _ HAT.out).mono ?_
    rintro e w1 ⟨rfl, hb⟩
    have HH := Lib.hid (HH.out.later hb)
    clear hb
    have b0 := HH.out.b0
    have b1 := HH.out.b1
    obtain ⟨b, o, rfl, hat⟩ := (HR.out.keep HH.out.B).at (by omega)
    have HA := Lib.hid (hat k x HGET.out)
    have e0 := HA.out.c0
    have e1 := HA.out.c1
    have e2 := HA.out.c2
    have e3 := HA.out.c3
    clear hat
    go_wp2_with fail
    refine (rinside_is x p n _ ⟨by have : 1 ≤ x.n := HOK.out.n1; omega, HOK.out.n2⟩ false HIN.out).mono ?_
    rintro e w2 ⟨rfl, hb⟩
    have hB := HH.out.B.on hb
    clear hb e0 e1 e2 e3 b0 b1
    go_wp2_with fail
    go_ret2
    exact ⟨_, rfl, OwnE.nil _ _, hB⟩
  · rw [hc]
    have HWI := Lib.hid ((HF.out.vol v (getV_mem hg).1).cut hn).1
    obtain ⟨k, hk, hat, hv, hkn⟩ := at_some HTS.out hg
    have hok := HF.out.vol v (getV_mem hg).1
    have HAT := Lib.hid hat
    have HMEM := Lib.hid (List.getElem_mem hk)
    have HGET := Lib.hid (List.getElem?_eq_getElem hk)
    clear hkn
    generalize ts[k] = x at *
    subst hv
    have HOK := Lib.hid hok
    clear hg hc hat hok
    have HIN := Lib.hid hn
    clear hn
    go_enter Tryz.func38, Tryz.ntmps38
    go_wp2_with fail
    refine (rat_r F.N ts nm a c _ (HR.out.keep HH.out.B) _ HAT.out).mono ?_
    rintro e w1 ⟨rfl, hb⟩
    have HH := Lib.hid (HH.out.later hb)
    clear hb
    have b0 := HH.out.b0
    have b1 := HH.out.b1
    obtain ⟨b, o, rfl, hat⟩ := (HR.out.keep HH.out.B).at (by omega)
    have HA := Lib.hid (hat k x HGET.out)
    have e0 := HA.out.c0
    have e1 := HA.out.c1
    have e2 := HA.out.c2
    have e3 := HA.out.c3
    clear hat
    go_wp2_with fail
    refine (rinside_is x p n _ ⟨by have : 1 ≤ x.n := HOK.out.n1; omega, HOK.out.n2⟩ true HIN.out).mono ?_
    rintro e w2 ⟨rfl, hb⟩
    have HH := Lib.hid (HH.out.later hb)
    have HA := Lib.hid (HA.out.keep hb)
    clear hb e0 e1 e2 e3 b0 b1
    have b1 := HH.out.b1
    have e3 := HA.out.c3
    go_wp2_with fail
    refine (rcut_l x.l p n x.a x.c _ ((HL.out x HMEM.out).keep HH.out.B) (by have : x.l.length ≤ 100000 := fam_short HOK.out; omega) HOK.out.valid HWI.out).mono ?_
    rintro e w3 ⟨sv, mv, rfl, _, hom, hb⟩
    have hB := HH.out.B.on hb
    have hsz := HH.out.B.size
    clear hb e3 b1
    go_wp2_with fail
    go_ret2
    exact ⟨_, rfl, hom.mono hsz, hB⟩
set_option maxHeartbeats 8000000 in
theorem rlookup_is (F : Fam) (gv : Value) (nm : List UInt8) (p : Int) (w : World) (hF : F.ok) (h : FamR w gv F) (hnm : nm.length ≤ maxLen) :
    Calls Tryz.prog 37 #[gv, nmV nm, .int .i64 p] w fun e w' => e = .returned (.tuple #[.int .i64 (lookupF F nm p).1, .bool (lookupF F nm p).2.1, .int .i64 (lookupF F nm p).2.2]) ∧ Below w.heap.size w w' := by
  obtain ⟨a, c, ts, rfl, hr, hl, hts, _⟩ := h
  have h32 := (fit_len hF hts).2
  have HH := Lib.hid (BH.init w a F.N ts.length c)
  have HR := Lib.hid hr
  have HL := Lib.hid hl
  have HTS := Lib.hid hts
  have HF := Lib.hid hF
  clear hr hl hts hF
  rcases lookup_cases F nm p with ⟨hg, hc⟩ | ⟨v, hg, ⟨hn, hc⟩ | ⟨hn1, hn2, hc⟩⟩
  · rw [hc]
    have HAT := Lib.hid (at_none HTS.out hg)
    clear hg hc
    go_enter Tryz.func37, Tryz.ntmps37
    go_wp2_with fail
    refine (rat_r F.N ts nm a c _ (HR.out.keep HH.out.B) _ HAT.out).mono ?_
    rintro e w1 ⟨rfl, hb⟩
    have HH := Lib.hid (HH.out.later hb)
    clear hb
    have b0 := HH.out.b0
    have b1 := HH.out.b1
    go_wp2_with fail
    go_ret3
    exact ⟨rfl, HH.out.B⟩
  · rw [hc]
    obtain ⟨k, hk, hat, hv, hkn⟩ := at_some HTS.out hg
    have hok := HF.out.vol v (getV_mem hg).1
    have HAT := Lib.hid hat
    have HMEM := Lib.hid (List.getElem_mem hk)
    have HGET := Lib.hid (List.getElem?_eq_getElem hk)
    clear hkn
    generalize ts[k] = x at *
    subst hv
    have HOK := Lib.hid hok
    clear hg hc hat hok
    have hn' : p < 0 ∨ x.n ≤ p := hn
    clear hn
    go_enter Tryz.func37, Tryz.ntmps37
    go_wp2_with fail
    refine (rat_r F.N ts nm a c _ (HR.out.keep HH.out.B) _ HAT.out).mono ?_
    rintro e w1 ⟨rfl, hb⟩
    have HH := Lib.hid (HH.out.later hb)
    clear hb
    have b0 := HH.out.b0
    have b1 := HH.out.b1
    obtain ⟨b, o, rfl, hat⟩ := (HR.out.keep HH.out.B).at (by omega)
    have HA := Lib.hid (hat k x HGET.out)
    have e0 := HA.out.c0
    have e1 := HA.out.c1
    have e2 := HA.out.c2
    have e3 := HA.out.c3
    clear hat
    have HHB := HH.out.B
    clear HH
    rcases hn' with hn | hn
    · go_wp2_with fail
      go_ret3
      exact ⟨rfl, HHB⟩
    · have hp0 : p < 0 ∨ 0 ≤ p := by omega
      rcases hp0 with hp0 | hp0
      · go_wp2_with fail
        go_ret3
        exact ⟨rfl, HHB⟩
      · go_wp2_with fail
        go_ret3
        exact ⟨rfl, HHB⟩
  · rw [hc]
    obtain ⟨k, hk, hat, hv, hkn⟩ := at_some HTS.out hg
    have hok := HF.out.vol v (getV_mem hg).1
    have HAT := Lib.hid hat
    have HMEM := Lib.hid (List.getElem_mem hk)
    have HGET := Lib.hid (List.getElem?_eq_getElem hk)
    clear hkn
    generalize ts[k] = x at *
    subst hv
    have HOK := Lib.hid hok
    clear hg hc hat hok
    have hn3 : p < x.n := hn2
    clear hn2
    go_enter Tryz.func37, Tryz.ntmps37
    go_wp2_with fail
    refine (rat_r F.N ts nm a c _ (HR.out.keep HH.out.B) _ HAT.out).mono ?_
    rintro e w1 ⟨rfl, hb⟩
    have HH := Lib.hid (HH.out.later hb)
    clear hb
    have b0 := HH.out.b0
    have b1 := HH.out.b1
    obtain ⟨b, o, rfl, hat⟩ := (HR.out.keep HH.out.B).at (by omega)
    have HA := Lib.hid (hat k x HGET.out)
    have e0 := HA.out.c0
    have e1 := HA.out.c1
    have e2 := HA.out.c2
    have e3 := HA.out.c3
    clear hat
    go_wp2_with fail
    refine (rfind_any x.l p x.a x.c _ ((HL.out x HMEM.out).keep HH.out.B) (fun z hz => okB_wf (validB_ok HOK.out.valid z hz))).mono ?_
    rintro e w3 ⟨rfl, hb⟩
    have hB := HH.out.B.on hb
    rw [findV_yes p (show validB x.l = true from HOK.out.valid), findW_yes p (show validB x.l = true from HOK.out.valid)]
    clear hb e0 e1 e2 e3 b0 b1
    go_wp2_with fail
    go_ret3
    exact ⟨rfl, hB⟩
end Go.Proofs.YtpakjddfnhnndaaGreat
