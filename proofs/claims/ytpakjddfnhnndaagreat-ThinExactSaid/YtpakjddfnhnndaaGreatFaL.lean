/-
  package family: Slots, Count, Free, Lookup, Range.
  Conditions: as each theorem says.
-/
import Derived.Test.YtpakjddfnhnndaaGreatFaK
import Derived.Test.YtpakjddfnhnndaaGreatRcH
namespace Go.Proofs.YtpakjddfnhnndaaGreat
set_option linter.unusedSimpArgs false
set_option linter.unusedVariables false
set_option maxRecDepth 100000
open Go.RowKit Go.Maps

theorem RdV.fit {F : Fam} (hF : F.ok) {ts : List VT} (h : ts.map VT.vol = F.vs) : ∀ v ∈ ts, v.vol.ok F.N := fun v hv => hF.vol _ (by rw [← h]; exact List.mem_map.2 ⟨v, hv, rfl⟩)
theorem ts_bounds {F : Fam} (hF : F.ok) {ts : List VT} (h : ts.map VT.vol = F.vs) : ∀ v ∈ ts, 0 ≤ v.n ∧ v.n ≤ 65536 := fun v hv => by
  have := RdV.fit hF h v hv
  have h1 := this.n1
  have h2 := this.n2
  exact ⟨by have : (1 : Int) ≤ v.n := h1; omega, h2⟩
theorem ts_len {F : Fam} (hF : F.ok) {ts : List VT} (h : ts.map VT.vol = F.vs) : ts.length ≤ 32 := by
  have := hF.few
  rw [← h, List.length_map] at this
  exact this
set_option maxHeartbeats 1000000 in
theorem fslots_is (F : Fam) (fv : Value) (w : World) (hF : F.ok) (h : FamV w fv F) : Calls Tryz.prog 28 #[fv] w fun e w' => e = .returned (.int .i64 F.N) ∧ Below w.heap.size w w' := by
  obtain ⟨a, c, mb, rfl, hr, _⟩ := h
  have hN := hF.hN
  clear hr
  go_enter Tryz.func28, Tryz.ntmps28
  go_wp2_with fail
  refine (slots_any a F.N c _ hN).mono ?_
  rintro e w1 ⟨rfl, hb⟩
  have HB := Lib.hid hb
  clear hb
  go_wp2_with fail
  go_ret
  exact ⟨rfl, ((Below.refl _ _).onAlloc _).on HB.out⟩
set_option maxHeartbeats 1000000 in
theorem fcount_is (F : Fam) (fv : Value) (s : Int) (w : World) (h : FamV w fv F) : Calls Tryz.prog 29 #[fv, .int .i64 s] w fun e w' => e = .returned (.int .i64 (ofC F.C s)) ∧ Below w.heap.size w w' := by
  obtain ⟨a, c, mb, rfl, hr, _⟩ := h
  have HI := Lib.hid (of_any F.C a c s _ (hr.keep ((Below.refl w.heap.size w).onAlloc (.cells #[.slice a F.N c, .map mb] 28))))
  rw [F.C_length] at HI
  clear hr
  go_enter Tryz.func29, Tryz.ntmps29
  go_wp2_with fail
  refine HI.out.mono ?_
  rintro e w1 ⟨rfl, hb⟩
  have HB := Lib.hid hb
  clear hb
  go_wp2_with fail
  go_ret
  exact ⟨rfl, ((Below.refl _ _).onAlloc _).on HB.out⟩
theorem freeL_short (C : List Int) : (zeroL C).length ≤ 65536 := canon_short (runs_facts _).1
set_option maxHeartbeats 1000000 in
theorem ffree_is (F : Fam) (fv : Value) (w : World) (h : FamV w fv F) : Calls Tryz.prog 30 #[fv] w fun e w' => ∃ sv, e = .returned sv ∧ OwnE w' w.heap.size sv (zeroL F.C) ∧ Below w.heap.size w w' := by
  obtain ⟨a, c, mb, rfl, hr, _⟩ := h
  have HI := Lib.hid (zero_any F.C a c _ (hr.keep ((Below.refl w.heap.size w).onAlloc (.cells #[.slice a F.N c, .map mb] 28))))
  rw [F.C_length] at HI
  have hfs := freeL_short F.C
  clear hr
  go_enter Tryz.func30, Tryz.ntmps30
  go_wp2_with fail
  refine HI.out.mono ?_
  rintro e w1 ⟨sv, rfl, ho, hb⟩
  obtain ⟨sa, sc, rfl, _⟩ := ho.rd (by omega)
  have HB := Lib.hid hb
  have HO := Lib.hid ho
  clear hb ho
  go_wp2_with fail
  go_ret
  exact ⟨_, rfl, OwnE.mono HO.out (by simp), ((Below.refl _ _).onAlloc _).on HB.out⟩
theorem ftree_ok {N : Nat} {v : VT} (h : v.vol.ok N) : validB v.t.toL = true ∧ normB v.t.toL = true ∧ inside v.t.toL v.n := ⟨h.valid, h.norm, h.ins⟩
set_option maxHeartbeats 2000000 in
theorem flookup_is (F : Fam) (fv : Value) (nm : List UInt8) (p : Int) (w : World) (hF : F.ok) (h : FamV w fv F) (hn : nm.length ≤ maxLen) (hp : -9223372036854775808 ≤ p ∧ p ≤ 9223372036854775807) :
    Calls Tryz.prog 36 #[fv, nmV nm, .int .i64 p] w fun e w' => e = .returned (.tuple #[.int .i64 (lookupF F nm p).1, .bool (lookupF F nm p).2.1, .int .i64 (lookupF F nm p).2.2]) ∧ Below w.heap.size w w' := by
  obtain ⟨a, c, mb, rfl, hr, ts, hts, hT⟩ := h
  have hb0 := (Below.refl w.heap.size w).onAlloc (.cells #[.slice a F.N c, .map mb] 28)
  have HFI := Lib.hid (ffind_is a F.N c mb ts nm p 1 _ (hT.keep hb0) hn (ts_bounds hF hts) hp)
  have HT := Lib.hid hT
  have HK := Lib.hid (RdV.fit hF hts)
  have HB0 := Lib.hid hb0
  unfold lookupF
  rw [← hts, getT_vol]
  clear hr hT hb0 hts
  cases hg : getT ts nm with
  | none =>
    have h0 : findC ts nm p 1 = (.agg #[.int .i64 0, .int .i64 0, .pointer none], 9) := by simp [findC, hg]
    rw [h0] at HFI
    clear h0 hg
    go_enter Tryz.func36, Tryz.ntmps36
    go_wp2_with fail
    refine HFI.out.mono ?_
    rintro e w1 ⟨rfl, hb⟩
    have HB := Lib.hid hb
    clear hb
    go_wp2_with fail
    go_ret3
    exact ⟨rfl, (HB0.out.on HB.out).onAlloc _⟩
  | some v =>
    have hm := (getT_mem hg).1
    cases hib : inB p 1 v.n
    · have h0 : findC ts nm p 1 = (.agg #[.int .i64 0, .int .i64 0, .pointer none], 2) := by simp [findC, hg, hib]
      have h1 : inB p 1 v.vol.n = false := hib
      rw [h0] at HFI
      simp only [Option.map_some, h1, if_true]
      clear h0 hg hm hib h1
      go_enter Tryz.func36, Tryz.ntmps36
      go_wp2_with fail
      refine HFI.out.mono ?_
      rintro e w1 ⟨rfl, hb⟩
      have HB := Lib.hid hb
      clear hb
      go_wp2_with fail
      go_ret3
      exact ⟨rfl, (HB0.out.on HB.out).onAlloc _⟩
    · have h0 : findC ts nm p 1 = (v.val, 0) := by simp [findC, hg, hib]
      have h1 : inB p 1 v.vol.n = true := hib
      rw [h0] at HFI
      simp only [Option.map_some, h1, Bool.true_eq_false, if_false]
      have HV := Lib.hid (HT.out.1 v hm)
      have HO := Lib.hid (ftree_ok (HK.out v hm))
      clear h0 hg hm hib h1
      go_enter Tryz.func36, Tryz.ntmps36
      go_wp2_with fail
      refine HFI.out.mono ?_
      rintro e w1 ⟨rfl, hb⟩
      have HB := Lib.hid ((HB0.out.on hb).onAlloc (.cells #[.int .i64 v.n, .int .i64 v.r, .pointer v.a] 114))
      clear hb
      go_wp2_with fail
      refine (tfind_tree v.t p (.pointer v.a) _ (IsTr.keep HB.out v.t HV.out) HO.out.1 hp).mono ?_
      rintro e w2 ⟨rfl, hb2⟩
      have HB2 := Lib.hid (HB.out.on hb2)
      clear hb2
      go_wp2_with fail
      go_ret3
      exact ⟨rfl, HB2.out⟩
theorem inB_within {p q n : Int} (h : inB p q n = true) (hn : n ≤ 65536) : withinB p q 65536 = true := by
  obtain ⟨h1, h2, h3, h4⟩ := (inB_iff _ _ _).1 h
  exact decide_eq_true (by omega)
theorem range_nil (p q : Int) (w : World) (hp : -9223372036854775808 ≤ p ∧ p ≤ 9223372036854775807) (hq : -9223372036854775808 ≤ q ∧ q ≤ 9223372036854775807) :
    Calls Tryz.prog 73 #[.agg #[.pointer none], .int .i64 p, .int .i64 q] w (RngPost w []) := by
  cases hw : withinB p q 65536
  · exact trange_bad p q (.pointer none) w ⟨none, rfl⟩ hw hp hq
  · have := trange_tree .nil p q (.pointer none) w rfl rfl rfl hw
    have h0 : inL Tr.nil.toL p q = [] := rfl
    rw [h0] at this
    exact this
set_option maxHeartbeats 2000000 in
theorem frange_is (F : Fam) (fv : Value) (nm : List UInt8) (p q : Int) (w : World) (hF : F.ok) (h : FamV w fv F) (hn : nm.length ≤ maxLen) (hp : -9223372036854775808 ≤ p ∧ p ≤ 9223372036854775807) (hq : -9223372036854775808 ≤ q ∧ q ≤ 9223372036854775807) :
    Calls Tryz.prog 26 #[fv, nmV nm, .int .i64 p, .int .i64 q] w fun e w' => ∃ sv, e = .returned (.tuple #[sv, .int .i64 (rangeF F nm p q).2]) ∧ OwnE w' w.heap.size sv (rangeF F nm p q).1 ∧ Below w.heap.size w w' := by
  obtain ⟨a, c, mb, rfl, hr, ts, hts, hT⟩ := h
  have hb0 := (Below.refl w.heap.size w).onAlloc (.cells #[.slice a F.N c, .map mb] 28)
  have HFI := Lib.hid (ffind_is a F.N c mb ts nm p q _ (hT.keep hb0) hn (ts_bounds hF hts) hp)
  obtain ⟨v1, e1, L, hfc, hrf, hcall⟩ : ∃ (v1 : VT) (e1 : Int) (L : List E), findC ts nm p q = (v1.val, e1) ∧ rangeF F nm p q = (L, e1) ∧ L.length ≤ 65536 ∧ ∀ w', Below w.heap.size w w' → Calls Tryz.prog 73 #[.agg #[.pointer v1.a], .int .i64 p, .int .i64 q] w' (RngPost w' L) := by
    unfold rangeF findC
    rw [← hts, getT_vol]
    cases hg : getT ts nm with
    | none => exact ⟨⟨[], 0, 0, none, .nil⟩, 9, [], rfl, rfl, by simp, fun w' _ => range_nil p q w' hp hq⟩
    | some v =>
      have hm := (getT_mem hg).1
      have hk := RdV.fit hF hts v hm
      cases hib : inB p q v.n
      · have h1 : inB p q v.vol.n = false := hib
        simp only [Option.map_some, h1, if_true]
        exact ⟨⟨[], 0, 0, none, .nil⟩, 2, [], by simp [hib], rfl, by simp, fun w' _ => range_nil p q w' hp hq⟩
      · have h1 : inB p q v.vol.n = true := hib
        simp only [Option.map_some, h1, Bool.true_eq_false, if_false]
        exact ⟨v, 0, _, by simp [hib], rfl, Nat.le_trans (inL_facts _ p q (validB_ok hk.valid)).1 hk.short.1, fun w' hb => trange_tree v.t p q (.pointer v.a) w' (IsTr.keep hb v.t (hT.1 v hm)) hk.valid hk.norm (inB_within h1 hk.n2)⟩
  rw [hfc] at HFI
  rw [hrf]
  have HC := Lib.hid hcall
  have HB0 := Lib.hid hb0
  clear hr hT hb0 hts hfc hrf hcall
  go_enter Tryz.func26, Tryz.ntmps26
  go_wp2_with fail
  refine HFI.out.mono ?_
  rintro e w1 ⟨rfl, hb⟩
  have HB := Lib.hid ((HB0.out.on hb).onAlloc (.cells #[.int .i64 v1.n, .int .i64 v1.r, .pointer v1.a] 114))
  clear hb
  go_wp2_with fail
  refine (HC.out.2 _ HB.out).mono ?_
  rintro e w2 ⟨sv, rfl, ho, hb2⟩
  obtain ⟨sa, sc, rfl, _⟩ := ho.rd (by have := HC.out.1; omega)
  have HB2 := Lib.hid (HB.out.on hb2)
  have HO := Lib.hid (OwnE.mono ho HB.out.size)
  clear hb2 ho
  go_wp2_with fail
  go_ret2
  exact ⟨_, rfl, HO.out, HB2.out⟩
end Go.Proofs.YtpakjddfnhnndaaGreat
