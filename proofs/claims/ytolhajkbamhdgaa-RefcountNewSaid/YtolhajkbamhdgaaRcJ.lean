/-
  The statements' helper build of chapter 34.
  Conditions: as the theorem says.
-/
import Derived.Test.YtolhajkbamhdgaaRcI
namespace Go.Proofs.Ytolhajkbamhdgaa
set_option linter.unusedSimpArgs false
set_option linter.unusedVariables false
open Go.RowKit

/-- The variables of build: c lies in block T, d is a value; w0 is the world of the call's beginning. -/
structure Pair (w0 w : World) (T m : Nat) (C : List Int) (ac ad : Option Addr) (cc cd : Nat) : Prop where
  len : C.length = m
  t : w.cell? ⟨T, 0, none⟩ = some (.slice ac m cc)
  ft : w.frozen? ⟨T, 0, none⟩ = false
  hc : OwnI w (w0.heap.size + 1) (.slice ac m cc) C
  hd : OwnI w (w0.heap.size + 1) (.slice ad m cd) C
  nc : (Value.slice ac m cc).ownBlock ≠ some T
  nd : (Value.slice ad m cd).ownBlock ≠ some T
  res : w.cell? ⟨w0.heap.size, 0, none⟩ = some (.slice none 0 0)
  fr : w.frozen? ⟨w0.heap.size, 0, none⟩ = false
  hB : Below w0.heap.size w0 w
theorem OwnI.rd' {w : World} {B : Nat} {a : Option Addr} {n c : Nat} {C : List Int} (h : OwnI w B (.slice a n c) C) (hl : C.length ≤ 65536) : RdI w a C := by
  obtain ⟨a', c', he, hr⟩ := h.rd hl
  injection he with he
  rw [he]
  exact hr
theorem Pair.later {w0 w w' : World} {T m : Nat} {C : List Int} {ac ad : Option Addr} {cc cd : Nat} (h : Pair w0 w T m C ac ad cc cd) (hb : Below w.heap.size w w') : Pair w0 w' T m C ac ad cc cd :=
  ⟨h.len, hb.keep h.t, hb.keepF h.t h.ft, h.hc.keep hb, h.hd.keep hb, h.nc, h.nd, hb.keep h.res, hb.keepF h.res h.fr, h.hB.on hb⟩
/-- c and d are given new values. -/
theorem Pair.put {w0 w : World} {T m : Nat} {C D : List Int} {ac ad a2 a3 : Option Addr} {cc cd c2 c3 : Nat} (h : Pair w0 w T m C ac ad cc cd) (hT : w0.heap.size < T) (hD : D.length = m)
    (hc : OwnI w (T + 1) (.slice a2 m c2) D) (hd : OwnI w (T + 1) (.slice a3 m c3) D) : Pair w0 (w.setCell ⟨T, 0, none⟩ (.slice a2 m c2)) T m D a2 a3 c2 c3 := by
  have n2 : (Value.slice a2 m c2).ownBlock ≠ some T := fun e => by have := (hc.lt _ e).1; omega
  have n3 : (Value.slice a3 m c3).ownBlock ≠ some T := fun e => by have := (hd.lt _ e).1; omega
  have hg := grown_setCell w ⟨T, 0, none⟩ (.slice a2 m c2)
  refine ⟨hD, ?_, ?_, (hc.away _ _ n2).mono (by omega), (hd.away _ _ n3).mono (by omega), n2, n3, hg.cell h.res (by simp; omega), grown_free hg h.res h.fr (by simp; omega), h.hB.setCell (by simp; omega) _⟩
  · exact World.cell?_setCell_same _ _ _ h.t
  · rw [World.frozen?_setCell]
    exact h.ft
/-- What build leaves: both counts read as one list. -/
def BuildPost (n : Nat) (w : World) (e : Ending) (w' : World) : Prop :=
  ∃ (C : List Int) (a a2 : Option Addr) (c c2 : Nat), e = .returned (.tuple #[.agg #[.slice a C.length c], .slice a2 C.length c2, .bool true]) ∧ C.length = n ∧ inR 0 160 C ∧ RdI w' a C ∧ RdI w' a2 C ∧ Below w.heap.size w w'
set_option maxRecDepth 100000 in
set_option maxHeartbeats 4000000 in
theorem build_any (n : Nat) (S : List (Bool × List E)) (a : Option Addr) (c : Nat) (w : World) (hn : n ≤ 255) (hr : RdS w a S) (hf : fewB S = true) (h20 : S.length ≤ 20) :
    Calls Try.prog 18 #[.int .u8 n, .slice a S.length c] w (BuildPost (n % 100) w) := by
  have hm0 : n % 100 ≤ 65536 := by omega
  have hmod : ((n : Int) % 100) = ((n % 100 : Nat) : Int) := by omega
  obtain ⟨m, hm⟩ : ∃ m, m = n % 100 := ⟨_, rfl⟩
  have HM := Lib.hid hmod
  rw [← hm] at hm0 HM ⊢
  have hm100 : m < 100 := by omega
  clear hm hmod
  go_enter Try.func18, Try.ntmps18
  go_wp2_with fail
  rw [HM.out]
  refine (new_yes m _ hm0).mono ?_
  rintro e w1 ⟨v, rfl, ho1, hb1⟩
  obtain ⟨ac, cc, rfl, hr1⟩ := ho1.rd (by simpa using hm0)
  rw [List.length_replicate] at ho1 ⊢
  have hres := hb1.keep (a := ⟨w.heap.size, 0, none⟩) (by simp; rfl)
  have hfr := hb1.keepF (a := ⟨w.heap.size, 0, none⟩) (by simp; rfl) (b := false) (by simp)
  have hB1 : Below w.heap.size w w1 := (((Below.refl w.heap.size w).onAlloc _)).on hb1
  have hT0 : w.heap.size < w1.heap.size := World.block_lt_of_cell? w1 _ hres
  have HO1 := Lib.hid ho1
  simp only [World.size_alloc] at HO1
  clear ho1 hb1 hr1
  go_wp2_with fail
  rw [HM.out]
  refine (rnew_yes m _ hm0).mono ?_
  rintro e w2 ⟨v, rfl, ho2, hb2⟩
  obtain ⟨ad, cd, rfl, hr2⟩ := ho2.rd (by simpa using hm0)
  rw [List.length_replicate] at ho2 ⊢
  have hbb := ((Below.refl w1.heap.size w1).onAlloc (.cells #[.slice ac m cc] 27)).on hb2
  have ht := hb2.keep (a := ⟨w1.heap.size, 0, none⟩) (by simp; rfl)
  have hft := hb2.keepF (a := ⟨w1.heap.size, 0, none⟩) (by simp; rfl) (b := false) (by simp)
  have hfr := hbb.keepF hres hfr
  replace hres := hbb.keep hres
  have hB2 := hB1.on hbb
  have HOC := Lib.hid (HO1.out.keep hbb)
  have HOD := Lib.hid (ho2.mono (B' := w.heap.size + 1) (by simp; omega))
  have HNC : Hid ((Value.slice ac m cc).ownBlock ≠ some w1.heap.size) := Lib.hid (fun h => Nat.lt_irrefl _ (HO1.out.lt _ h).2)
  have HND : Hid ((Value.slice ad m cd).ownBlock ≠ some w1.heap.size) := Lib.hid (fun h => by have := (ho2.lt _ h).1; simp only [World.size_alloc] at this; omega)
  obtain ⟨T, hT⟩ : ∃ T, T = w1.heap.size := ⟨_, rfl⟩
  rw [← hT] at ht hft HNC HND hT0 ⊢
  have HFEW := Lib.hid hf
  have HP := Lib.hid (⟨List.length_replicate, ht, hft, HOC.out, HOD.out, HNC.out, HND.out, hres, hfr, hB2⟩ : Pair w w2 T m (List.replicate m 0) ac ad cc cd)
  clear ho2 hb2 hbb hr2 HO1 hB1 hT hf ht hft HOC HOD HNC HND hres hfr hB2
  go_wp2_with fail
  go_loopw [9, 11] (fun d i wr => ∃ (k : Nat) (C : List Int) (ac ad : Option Addr) (cc cd : Nat), k ≤ S.length ∧ i = .int .i64 k ∧ inR 0 (8 * k) C ∧ d = .slice ad m cd ∧ Pair w wr T m C ac ad cc cd) (fun _ i _ => S.length - (intOf i).toNat)
  case atStart => exact ⟨0, _, ac, ad, cc, cd, Nat.zero_le _, rfl, inR_zero m, rfl, HP.out⟩
  case round =>
    clear HP
    obtain ⟨k, C, ac, ad, cc, cd, hk, rfl, hR, rfl, hp⟩ := hrel
    obtain rfl := hp.len
    have HP := Lib.hid hp
    have HR := Lib.hid hR
    clear hp hR
    by_cases hlt : k < S.length
    · have h8 := fewB_get HFEW.out hlt
      obtain ⟨b, o, rfl, hat⟩ := (hr.keep HP.out.hB).at (by omega)
      obtain ⟨h1, al, cl, h2, h3, h4, h5⟩ := hat k _ (List.getElem?_eq_getElem hlt)
      have hk0 : (0 : Int) ≤ k := by omega
      have hk1 : (k : Int) < S.length := by omega
      generalize S[k] = x at *
      obtain ⟨xd, l⟩ := x
      simp only at h1 h2 h3 h4 h5 h8
      have hrl := h4 (by omega)
      have HW := Lib.hid h5
      have H0 := Lib.hid (OwnE.lit wr #[] [] rfl (by decide) wr.heap.size (Nat.le_refl _))
      have HS := Lib.hid ((hrl.keep ((Below.refl wr.heap.size wr).onAlloc (.cells #[] 41))).source)
      obtain ⟨i0, hi, hz0, hz1, hz2⟩ := info_parts infoE
      clear hat h4 h5 h3 hr hrl
      go_upto_region 9 with (at_builtin; refine wpList_append_xs _ rfl _ _ 32 rfl wr.heap.size 41 i0 (.agg #[.int .i64 0, .int .i64 0, .int .i64 0]) 3 24 Try.underlying32 hi hz0 hz1 hz2 rfl (by decide) _ _ _ rfl H0.out _ _ _ _ rfl HS.out (by first | omega | (simp only [List.length_nil, List.length_append, List.length_cons]; omega)) (by first | (simp only [maxLen]; omega) | (simp only [maxLen, List.length_nil, List.length_append, List.length_cons]; omega)) (by first | omega | (simp only [World.size_alloc]; omega)) ?_; intro v1 w1 hown1 hgrow1 hwhere1)
      have hl := OwnE.append (l := []) hown1 (by simp)
      have hbl := ((Below.refl wr.heap.size wr).onAlloc (.cells #[] 41)).onGrow hgrow1 fun j hj => (H0.out.lt j hj).1
      obtain ⟨la, lc, rfl, hrl⟩ := hl.rd (by simp; omega)
      rw [List.nil_append] at hrl ⊢
      have hd1 := hbl.keep h1
      have HP := Lib.hid (HP.out.later hbl)
      have ht := HP.out.t
      have HRL := Lib.hid hrl
      have HC := Lib.hid (HP.out.hc.rd' hm0)
      have HD := Lib.hid (HP.out.hd.rd' hm0)
      have hRb : Hid (inR 0 1000000000 C) := Lib.hid (inR_mono HR.out (by omega) (by omega))
      clear hown1 hgrow1 hwhere1 hl H0 HS h1 h2 hbl hrl
      cases xd
      · cases hp : permB C.length l
        · have HPM := Lib.hid hp
          clear hp
          go_wp2_with fail
          refine (add_no C l ac la cc lc _ hm0 HRL.out HW.out HPM.out).mono ?_
          rintro e w3 ⟨rfl, hb3⟩
          have HP := Lib.hid (HP.out.later hb3)
          have HRL := Lib.hid (HRL.out.keep hb3)
          clear hb3
          go_wp2_with fail
          refine (radd_no C l ad la cd lc _ hm0 (HRL.out.keep ((Below.refl _ _).onAlloc _)) HW.out HPM.out).mono ?_
          rintro e w4 ⟨rfl, hb4⟩
          have HP := Lib.hid (HP.out.later (((Below.refl _ _).onAlloc _).on hb4))
          clear hb4
          go_wp2_with fail
          go_roundw
          case rel => exact ⟨k + 1, C, ac, ad, cc, cd, by omega, by go_num, inR_mono HR.out (by omega) (by omega), rfl, HP.out⟩
          case measure => simp [intOf]; omega
        · have HPM := Lib.hid hp
          have HL := Lib.hid (chgL_length C l 1)
          have HUP := Lib.hid (chg_up hp HR.out)
          clear hp
          go_wp2_with fail
          refine (add_yes C l ac la cc lc _ HC.out HRL.out HW.out HPM.out hRb.out (by omega)).mono ?_
          rintro e w3 ⟨v3, rfl, ho3, hb3⟩
          obtain ⟨a3, c3, rfl, _⟩ := ho3.rd (by rw [HL.out]; exact hm0)
          rw [HL.out] at ho3 ⊢
          have hTl : T < w1.heap.size := World.block_lt_of_cell? _ _ HP.out.t
          have HO3 := Lib.hid (ho3.mono (B' := T + 1) hTl)
          have HP := Lib.hid (HP.out.later hb3)
          have HRL := Lib.hid (HRL.out.keep hb3)
          have HD := Lib.hid (HD.out.keep hb3)
          have hz3 := hb3.size
          clear hb3 ho3
          go_wp2_with fail
          refine (radd_yes C l ad la cd lc _ (HD.out.keep ((Below.refl _ _).onAlloc _)) (HRL.out.keep ((Below.refl _ _).onAlloc _)) HW.out HPM.out hRb.out (by omega)).mono ?_
          rintro e w4 ⟨v4, rfl, ho4, hb4⟩
          obtain ⟨a4, c4, rfl, _⟩ := ho4.rd (by rw [HL.out]; exact hm0)
          rw [HL.out] at ho4 ⊢
          have hx := hb4.keep (a := ⟨w3.heap.size, 0, none⟩) (by simp; rfl)
          have hbb := (((Below.refl w3.heap.size w3).onAlloc (.cells #[.slice a3 C.length c3] 27)).on hb4)
          have HP := Lib.hid (HP.out.later hbb)
          have HO3 := Lib.hid (HO3.out.keep hbb)
          have HO4 := Lib.hid (ho4.mono (B' := T + 1) (by simp only [World.size_alloc]; omega))
          have ht := HP.out.t
          have hft := HP.out.ft
          clear hb4 ho4 hbb
          go_wp2_with fail
          go_roundw
          case rel => exact ⟨k + 1, chgL C l 1, a3, a4, c3, c4, by omega, by go_num, inR_mono HUP.out (by omega) (by omega), rfl, HP.out.put hT0 HL.out HO3.out HO4.out⟩
          case measure => simp [intOf]; omega
      · cases hp : permB C.length l
        · have HPM := Lib.hid hp
          clear hp
          go_wp2_with fail
          refine (drop_no C l ac la cc lc _ hm0 HRL.out HW.out HPM.out).mono ?_
          rintro e w3 ⟨rfl, hb3⟩
          have HP := Lib.hid (HP.out.later hb3)
          have HRL := Lib.hid (HRL.out.keep hb3)
          clear hb3
          go_wp2_with fail
          refine (rdrop_no C l ad la cd lc _ hm0 (HRL.out.keep ((Below.refl _ _).onAlloc _)) HW.out HPM.out).mono ?_
          rintro e w4 ⟨rfl, hb4⟩
          have HP := Lib.hid (HP.out.later (((Below.refl _ _).onAlloc _).on hb4))
          clear hb4
          go_wp2_with fail
          refine (same_is [] [] none none 0 0 true _ rfl ⟨by simp, .inl rfl⟩ ⟨by simp, .inl rfl⟩).mono ?_
          rintro e w5 ⟨rfl, hb5⟩
          have HP := Lib.hid (HP.out.later hb5)
          clear hb5
          go_wp2_with fail
          go_roundw
          case rel => exact ⟨k + 1, C, ac, ad, cc, cd, by omega, by go_num, inR_mono HR.out (by omega) (by omega), rfl, HP.out⟩
          case measure => simp [intOf]; omega
        · have HPM := Lib.hid hp
          have HL := Lib.hid (chgL_length C l (-1))
          have HDN := Lib.hid (fun h0 => chg_down hp HR.out h0)
          have HFR := Lib.hid (freed_is C l hm0 hp (fun i hi => (inR_get.1 HR.out i hi).1))
          cases hn : negB (chgL C l (-1))
          · have HN := Lib.hid hn
            have HDN := Lib.hid (HDN.out ((negB_iff _).1 hn))
            clear hp hn
            go_wp2_with fail
            refine (drop_yes C l ac la cc lc _ HC.out HRL.out HW.out HPM.out hRb.out (by omega) HN.out).mono ?_
            rintro e w3 ⟨v3, f3, rfl, ho3, hf3, hb3⟩
            rw [HFR.out] at hf3
            have hfs := canon_short (runs_facts (picks (freeB C (chgL C l (-1))) C.length)).1
            generalize hDD : chgL C l (-1) = D at *
            generalize hFF : runsL (picks (freeB C D) C.length) = F at *
            have HDD := Lib.hid hDD
            have HFF := Lib.hid hFF
            obtain ⟨a3, c3, rfl, _⟩ := ho3.rd (by rw [HL.out]; exact hm0)
            obtain ⟨a5, c5, rfl, hrf3⟩ := hf3.rd (by omega)
            rw [HL.out] at ho3 ⊢
            have hTl : T < w1.heap.size := World.block_lt_of_cell? _ _ HP.out.t
            have HO3 := Lib.hid (ho3.mono (B' := T + 1) hTl)
            have HP := Lib.hid (HP.out.later hb3)
            have HRL := Lib.hid (HRL.out.keep hb3)
            have HD := Lib.hid (HD.out.keep hb3)
            have hz3 := hb3.size
            clear hb3 ho3 hf3 HFR hDD hFF
            go_wp2_with fail
            refine (rdrop_yes C l ad la cd lc _ (HD.out.keep ((Below.refl _ _).onAlloc _)) (HRL.out.keep ((Below.refl _ _).onAlloc _)) HW.out HPM.out hRb.out (by omega) D HDD.out F HFF.out HN.out).mono ?_
            rintro e w4 ⟨v4, f4, rfl, ho4, hf4, hb4⟩
            obtain ⟨a4, c4, rfl, _⟩ := ho4.rd (by rw [HL.out]; exact hm0)
            obtain ⟨a6, c6, rfl, hrf4⟩ := hf4.rd (by omega)
            rw [HL.out] at ho4 ⊢
            have hx := hb4.keep (a := ⟨w3.heap.size, 0, none⟩) (by simp; rfl)
            have hbb := (((Below.refl w3.heap.size w3).onAlloc (.cells #[.slice a3 C.length c3] 27)).on hb4)
            have HP := Lib.hid (HP.out.later hbb)
            have HO3 := Lib.hid (HO3.out.keep hbb)
            have HO4 := Lib.hid (ho4.mono (B' := T + 1) (by simp only [World.size_alloc]; omega))
            have hrf3 := hrf3.keep hbb
            clear hb4 ho4 hbb hf4
            go_wp2_with fail
            refine (same_is F F _ _ _ _ true _ (sameB_refl _) hrf3 hrf4).mono ?_
            rintro e w5 ⟨rfl, hb5⟩
            have HP := Lib.hid (HP.out.later hb5)
            have HO3 := Lib.hid (HO3.out.keep hb5)
            have HO4 := Lib.hid (HO4.out.keep hb5)
            replace hx := hb5.keep hx
            have ht := HP.out.t
            have hft := HP.out.ft
            clear hb5 hrf3 hrf4
            go_wp2_with fail
            go_roundw
            case rel => exact ⟨k + 1, D, a3, a4, c3, c4, by omega, by go_num, inR_mono HDN.out (by omega) (by omega), rfl, HP.out.put hT0 HL.out HO3.out HO4.out⟩
            case measure => simp [intOf]; omega
          · have HN := Lib.hid hn
            clear hp hn
            go_wp2_with fail
            refine (drop_state C l ac la cc lc _ HC.out HRL.out HW.out HPM.out hRb.out (by omega) HN.out).mono ?_
            rintro e w3 ⟨rfl, hb3⟩
            have HP := Lib.hid (HP.out.later hb3)
            have HRL := Lib.hid (HRL.out.keep hb3)
            have HD := Lib.hid (HD.out.keep hb3)
            clear hb3
            go_wp2_with fail
            refine (rdrop_state C l ad la cd lc _ (HD.out.keep ((Below.refl _ _).onAlloc _)) (HRL.out.keep ((Below.refl _ _).onAlloc _)) HW.out HPM.out hRb.out (by omega) HN.out).mono ?_
            rintro e w4 ⟨rfl, hb4⟩
            have HP := Lib.hid (HP.out.later (((Below.refl _ _).onAlloc _).on hb4))
            clear hb4
            go_wp2_with fail
            refine (same_is [] [] none none 0 0 true _ rfl ⟨by simp, .inl rfl⟩ ⟨by simp, .inl rfl⟩).mono ?_
            rintro e w5 ⟨rfl, hb5⟩
            have HP := Lib.hid (HP.out.later hb5)
            clear hb5
            go_wp2_with fail
            go_roundw
            case rel => exact ⟨k + 1, C, ac, ad, cc, cd, by omega, by go_num, inR_mono HR.out (by omega) (by omega), rfl, HP.out⟩
            case measure => simp [intOf]; omega
    · have ht := HP.out.t
      have HC := Lib.hid (HP.out.hc.rd' hm0)
      have HD := Lib.hid (HP.out.hd.rd' hm0)
      have hRb : Hid (inR 0 1000000000 C) := Lib.hid (inR_mono HR.out (by omega) (by omega))
      go_wp2_with fail
      have hT : T < wr.heap.size := World.block_lt_of_cell? _ _ HP.out.t
      have hd0 : Below wr.heap.size wr wr.drew := (Below.refl _ _).drew
      have hres : wr.drew.cell? ⟨w.heap.size, 0, none⟩ = some (.slice none 0 0) := HP.out.res
      have hfr : wr.drew.frozen? ⟨w.heap.size, 0, none⟩ = false := HP.out.fr
      have HST : Hid (∀ W : World, Pair w W T C.length C ac ad cc cd → (W.setCell ⟨w.heap.size, 0, none⟩ (.slice ac C.length cc)).cell? ⟨T, 0, none⟩ = some (.slice ac C.length cc)) :=
        Lib.hid fun W p => (grown_setCell W ⟨w.heap.size, 0, none⟩ _).cell p.t (by simp; omega)
      go_region_held3 (fun w' => w'.cell? ⟨T, 0, none⟩ = some (.slice ac C.length cc) ∧ (Pair w w' T C.length C ac ad cc cd ∨ ∃ W, Pair w W T C.length C ac ad cc cd ∧ w' = W.setCell ⟨w.heap.size, 0, none⟩ (.slice ac C.length cc)))
        (first
          | exact ⟨HP.out.t, .inl (HP.out.later hd0)⟩
          | exact ⟨(HP2.out.later hb5).t, .inl (HP2.out.later hb5)⟩
          | exact ⟨HST.out _ (HP2.out.later hb5), .inr ⟨_, HP2.out.later hb5, rfl⟩⟩)
        ((go_at_call 22; have HP2 := Lib.hid (HP.out.later hd0); refine (same_counts C ac ad cc cd _ (HP2.out.hc.rd' hm0) (HP2.out.hd.rd' hm0) hRb.out).mono ?_; rintro e w5 ⟨rfl, hb5⟩; have hres5 := hb5.keep hres; have hfr5 := hb5.keepF hres hfr))
      have HP5 := Lib.hid (HP2.out.later hb5)
      have HQ : Hid (BuildPost C.length w (.returned (.tuple #[.agg #[.slice ac C.length cc], .slice ad C.length cd, .bool true])) (w5.setCell ⟨w.heap.size, 0, none⟩ (.slice ac C.length cc))) := Lib.hid (by
        refine ⟨C, ac, ad, cc, cd, rfl, rfl, inR_mono HR.out (by omega) (by omega), ?_, ?_, HP5.out.hB.setCell (by simp) _⟩
        · exact (HP5.out.hc.away _ _ (fun h => by have := (HP5.out.hc.lt _ h).1; simp at this; omega)).rd' hm0
        · exact (HP5.out.hd.away _ _ (fun h => by have := (HP5.out.hd.lt _ h).1; simp at this; omega)).rd' hm0)
      clear hb5 HP2 hd0 HST
      go_wp2_with fail
      refine bodyPost_ret (v := .tuple #[.agg #[.slice ac C.length cc], .slice ad C.length cd, .bool true]) ?_ rfl HQ.out
      simp [results, Try.results18, go_sem, hres5, hfr5]
end Go.Proofs.Ytolhajkbamhdgaa
