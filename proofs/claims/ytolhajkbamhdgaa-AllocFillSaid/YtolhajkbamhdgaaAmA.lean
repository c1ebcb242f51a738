/-
  The walk of the law AllocFill.
  Conditions: none beyond that the arguments can be read.
-/
import Derived.Test.YtolhajkbamhdgaaAlK
import Derived.Deep.RegionHeld3
import Derived.Deep.CutRange
namespace Go.Proofs.Ytolhajkbamhdgaa
set_option linter.unusedSimpArgs false
set_option linter.unusedVariables false
open Go.RowKit

/-! ### One slot is taken -/
theorem take_single {M : List Bool} (hN : M.length ≤ 65536) (h : Nat) (hf : 1 ≤ area (freeF M) M.length) : ∃ s : Nat, takeL M 1 h = [⟨0, 1, s⟩] ∧ freeF M s = true := by
  cases hb : fitS (fromL (freeR M) h) (1 : Nat) with
  | some s =>
    obtain ⟨s', rfl, _, hr, _⟩ := fit_from_some hN (by omega) hb
    exact ⟨s', takeL_behind M 1 h s' (by omega) hb, by simpa using (roomB_iff _ _ _).1 hr 0 (by omega)⟩
  | none =>
    cases hg : fitS (freeR M) (1 : Nat) with
    | some s =>
      obtain ⟨s', rfl, hr, _⟩ := fit_some' hN (by omega) hg
      exact ⟨s', takeL_any M 1 h s' (by omega) hb hg, by simpa using (roomB_iff _ _ _).1 hr 0 (by omega)⟩
    | none =>
      exfalso
      have : area (freeF M) M.length = 0 := (area_zero_iff _ _).2 fun i _ => by
        have := fit_none' hN (by omega) hg i
        cases hfi : freeF M i
        · rfl
        · rw [(roomB_iff M i 1).2 fun j hj => by obtain rfl : j = 0 := by omega
                                                 simpa using hfi] at this
          cases this
      omega
/-- The marks after taking one slot. -/
structure Fill (M0 M : List Bool) (k : Nat) : Prop where
  len : M.length = M0.length
  area : area (freeF M) M0.length = k
  sub : ∀ i, freeF M i = true → freeF M0 i = true
/-- What has been seen. -/
def seenL (M0 M : List Bool) : List Bool := mk (fun i => freeF M0 i && !freeF M i) M0.length
theorem seenL_start (M : List Bool) : seenL M M = List.replicate M.length false := by
  unfold seenL
  rw [← mk_false]
  exact mk_congr _ _ _ fun i _ => by cases freeF M i <;> rfl
theorem fill_start (M : List Bool) : Fill M M (area (freeF M) M.length) := ⟨rfl, rfl, fun _ h => h⟩
theorem fill_next {M0 M : List Bool} {k : Nat} (hN : M0.length ≤ 65536) (h : Fill M0 M k) (s : Nat) (hs : freeF M s = true) :
    Fill M0 (chgM M [⟨0, 1, s⟩] true) (k - 1) ∧ (seenL M0 M).set s true = seenL M0 (chgM M [⟨0, 1, s⟩] true) ∧ (seenL M0 M).getD s false = false ∧ s < M0.length := by
  have hl := h.len
  have hsl : s < M.length := freeF_lt hs
  have hlist : ∀ i, listF [(⟨0, 1, s⟩ : E)] i = decide (i = s) := fun i => by
    rw [listF_one, Bool.eq_iff_iff, inX_iff]
    simp only [decide_eq_true_eq]
    omega
  have hfree : ∀ i, i < M.length → freeF (chgM M [⟨0, 1, s⟩] true) i = (freeF M i && !decide (i = s)) := fun i hi => by
    rw [free_chg _ _ _ _ hi, hlist]
    by_cases he : i = s <;> simp [he]
  have hback := area_back (M := M) (l := [⟨0, 1, s⟩]) fun i hi => by
    rw [hlist, decide_eq_true_eq] at hi
    subst hi
    exact hs
  have h1 : area (listF [(⟨0, 1, s⟩ : E)]) M.length = 1 := by
    rw [area_add (fun _ => false) (listF [(⟨0, 1, s⟩ : E)]) s M.length hsl (fun i _ hne => by rw [hlist]; simp [hne]) rfl (by rw [hlist]; simp), area_false _ _ fun _ _ => rfl]
  rw [hl] at hback h1
  refine ⟨⟨by rw [chgM_length]; exact hl, by have := h.area; omega, fun i hi => ?_⟩, ?_, ?_, by omega⟩
  · have hil := freeF_lt hi
    rw [chgM_length] at hil
    rw [hfree i hil, Bool.and_eq_true] at hi
    exact h.sub i hi.1
  · unfold seenL
    rw [mk_set]
    refine mk_congr _ _ _ fun i hi => ?_
    rw [hfree i (by omega)]
    by_cases he : i = s
    · subst he
      simp [h.sub i hs]
    · simp [he]
  · unfold seenL
    rw [mk_get _ _ _ (by omega), hs]
    simp
/-- m lies in block X, what was seen in block G. -/
structure FlS (w0 W : World) (X G N : Nat) (M0 M : List Bool) (a an : Option Addr) (c : Nat) : Prop where
  t0 : W.cell? ⟨X, 0, none⟩ = some (.int .i64 N)
  t1 : W.cell? ⟨X, 1, none⟩ = some (.slice a (freeR M).length c)
  g0 : W.frozen? ⟨X, 0, none⟩ = false
  g1 : W.frozen? ⟨X, 1, none⟩ = false
  r : Rd W a (freeR M)
  n : RdM W an M0
  aX : Away (freeR M = []) a X
  aG : Away (freeR M = []) a G
  nX : Away (M0 = []) an X
  nG : Away (M0 = []) an G
  s : OwnM W w0.heap.size (.slice (some ⟨G, 0, none⟩) N N) (seenL M0 M)
  XG : X < G
  wX : w0.heap.size ≤ X
  B : Below w0.heap.size w0 W
section
variable {w0 W W' : World} {X G N : Nat} {M0 M M' : List Bool} {a an a' : Option Addr} {c c' : Nat}
theorem FlS.later (h : FlS w0 W X G N M0 M a an c) (hb : Below W.heap.size W W') : FlS w0 W' X G N M0 M a an c :=
  ⟨hb.keep h.t0, hb.keep h.t1, hb.keepF h.t0 h.g0, hb.keepF h.t1 h.g1, h.r.keep hb, h.n.keep hb, h.aX, h.aG, h.nX, h.nG, h.s.keep hb, h.XG, h.wX, h.B.on hb⟩
theorem FlS.lt (h : FlS w0 W X G N M0 M a an c) : G < W.heap.size := (h.s.lt G rfl).2
/-- A slot more is seen, and m is set. -/
theorem FlS.next (h : FlS w0 W X G N M0 M a an c) (s : Nat) (hs : (seenL M0 M).set s true = seenL M0 M') (hl : M0.length = N) (hr : Rd W a' (freeR M')) (k1 : Away (freeR M' = []) a' X) (k2 : Away (freeR M' = []) a' G) :
    FlS w0 (((W.setCell ⟨G, s, none⟩ (.bool true)).setCell ⟨X, 0, none⟩ (.int .i64 N)).setCell ⟨X, 1, none⟩ (.slice a' (freeR M').length c')) X G N M0 M' a' an c' := by
  have hX := h.XG
  have hw := h.wX
  have hne : (Value.slice (some ⟨G, 0, none⟩) N N).ownBlock ≠ some X := fun e => by simp [Value.ownBlock] at e; omega
  obtain ⟨o1, _⟩ := OwnM.set (by unfold seenL; rw [mk_length]; exact hl.symm) h.s s true
  rw [hs] at o1
  have e0 : (W.setCell ⟨G, s, none⟩ (.bool true)).cell? ⟨X, 0, none⟩ = some (.int .i64 N) := by
    rw [World.cell?_setCell_far _ _ _ _ (by simp; omega)]; exact h.t0
  have e1 : ((W.setCell ⟨G, s, none⟩ (.bool true)).setCell ⟨X, 0, none⟩ (.int .i64 N)).cell? ⟨X, 1, none⟩ = some (.slice a (freeR M).length c) := by
    rw [World.cell?_setCell_other _ _ _ _ (by simp), World.cell?_setCell_far _ _ _ _ (by simp; omega)]; exact h.t1
  refine ⟨?_, World.cell?_setCell_same _ _ _ e1, by simp only [World.frozen?_setCell]; exact h.g0, by simp only [World.frozen?_setCell]; exact h.g1, ((hr.cell_ne _ _ _ k2).cell_ne _ _ _ k1).cell_ne _ _ _ k1, ((h.n.cell_ne _ _ _ h.nG).cell_ne _ _ _ h.nX).cell_ne _ _ _ h.nX, k1, k2, h.nX, h.nG,
    (o1.away ⟨X, 0, none⟩ _ hne).away ⟨X, 1, none⟩ _ hne, hX, hw, ((h.B.setCell (by simp; omega) _).setCell (by simp; omega) _).setCell (by simp; omega) _⟩
  rw [World.cell?_setCell_other _ _ _ _ (by simp)]
  exact World.cell?_setCell_same _ _ _ e0
end
/-- What the call of Take leaves. -/
def FlC (W : World) (N s : Nat) (M M' : List Bool) (a : Option Addr) (l x e : Value) (wx : World) : Prop :=
  ∃ (la : Option Addr) (lc Y : Nat) (a' : Option Addr) (c' : Nat), l = .slice la 1 lc ∧ x = .pointer (some ⟨Y, 0, none⟩) ∧ e = .int .i64 0 ∧ Rd wx la [⟨0, 1, s⟩] ∧ wx.cell? ⟨Y, 0, none⟩ = some (.int .i64 N) ∧ wx.cell? ⟨Y, 1, none⟩ = some (.slice a' (freeR M').length c') ∧ Rd wx a' (freeR M') ∧ Fresh (freeR M = []) (freeR M' = []) W.heap.size a a' ∧ W.heap.size ≤ Y ∧
    (∀ b o, la = some ⟨b, o, none⟩ → W.heap.size ≤ b) ∧ Below W.heap.size W wx

theorem atake_one (M : List Bool) (N h s : Nat) (a : Option Addr) (c : Nat) (w : World) (hl : M.length = N) (ht : takeL M 1 h = [⟨0, 1, s⟩]) (hr : Rd w a (freeR M)) (hN : M.length ≤ 65536) (hh : h ≤ N) (hf : 1 ≤ area (freeF M) N) :
    Calls Try.prog 35 #[.agg #[.int .i64 N, .slice a (freeR M).length c], .int .i64 1, .int .i64 h] w fun e w' => ∃ la lc a' c', e = .returned (.tuple #[.slice la 1 lc, .agg #[.int .i64 N, .slice a' (freeR (chgM M [⟨0, 1, s⟩] true)).length c'], .int .i64 0]) ∧
      OwnE w' w.heap.size (.slice la 1 lc) [⟨0, 1, s⟩] ∧ Rd w' a' (freeR (chgM M [⟨0, 1, s⟩] true)) ∧ Fresh (freeR M = []) (freeR (chgM M [⟨0, 1, s⟩] true) = []) w.heap.size a a' ∧ Below w.heap.size w w' := by
  subst hl
  refine (atake_all M 1 h a c w hr hN hh hf).mono fun e w' ⟨v1, v2, he, ho, ⟨a', c', hv, hr', hf'⟩, hb⟩ => ?_
  rw [ht] at ho hv hr' hf'
  obtain ⟨la, lc, rfl, _⟩ := ho.rd (by simp)
  exact ⟨la, lc, a', c', by rw [he, hv]; rfl, ho, hr', hf', hb⟩
theorem atake_none (M : List Bool) (N : Nat) (a : Option Addr) (c : Nat) (w : World) (hl : M.length = N) (hr : Rd w a (freeR M)) (hN : M.length ≤ 65536) (hf : area (freeF M) N = 0) :
    Calls Try.prog 35 #[.agg #[.int .i64 N, .slice a (freeR M).length c], .int .i64 1, .int .i64 0] w fun e w' => e = .returned (.tuple #[.slice none 0 0, .agg #[.int .i64 0, .slice none 0 0], .int .i64 11]) ∧ Below w.heap.size w w' := by
  subst hl
  exact atake_space M.length (freeR M) 1 0 a c w hN hr (freeR_canon M) ((askB_iff _ _ _).2 ⟨by omega, by omega, by omega⟩) (by rw [lenL_free M hN, hf]; omega)
theorem keepNew35 {W w' : World} {t : TypeId} (hb : Below (W.alloc (.cells #[.int .i64 0, .slice none 0 0] t)).heap.size (W.alloc (.cells #[.int .i64 0, .slice none 0 0] t)) w') :
    w'.cell? ⟨W.heap.size, 0, none⟩ = some (.int .i64 0) ∧ w'.cell? ⟨W.heap.size, 1, none⟩ = some (.slice none 0 0) ∧ w'.frozen? ⟨W.heap.size, 0, none⟩ = false ∧ w'.frozen? ⟨W.heap.size, 1, none⟩ = false :=
  ⟨hb.keep (by simp), hb.keep (by simp), hb.keepF (v := .int .i64 0) (by simp) (by simp), hb.keepF (v := .slice none 0 0) (by simp) (by simp)⟩
theorem keepNew35d {W w' : World} {t : TypeId} (hb : Below ((W.alloc (.cells #[.int .i64 0, .slice none 0 0] t)).drew).heap.size (W.alloc (.cells #[.int .i64 0, .slice none 0 0] t)).drew w') :
    w'.cell? ⟨W.heap.size, 0, none⟩ = some (.int .i64 0) ∧ w'.cell? ⟨W.heap.size, 1, none⟩ = some (.slice none 0 0) ∧ w'.frozen? ⟨W.heap.size, 0, none⟩ = false ∧ w'.frozen? ⟨W.heap.size, 1, none⟩ = false :=
  ⟨hb.keep (by simp), hb.keep (by simp), hb.keepF (v := .int .i64 0) (by simp) (by simp), hb.keepF (v := .slice none 0 0) (by simp) (by simp)⟩
theorem flc_new {wr w5 : World} {N s : Nat} {Mc M' : List Bool} {am la a' : Option Addr} {lc c' : Nat} {t : TypeId} (hM : chgM Mc [⟨0, 1, s⟩] true = M') (hB : Below wr.drew.heap.size wr.drew w5) (ho : OwnE w5 wr.drew.heap.size (.slice la 1 lc) [⟨0, 1, s⟩]) (hr : Rd w5 a' (freeR (chgM Mc [⟨0, 1, s⟩] true)))
    (hf : Fresh (freeR Mc = []) (freeR (chgM Mc [⟨0, 1, s⟩] true) = []) wr.drew.heap.size am a') :
    FlC wr N s Mc M' am (.slice la 1 lc) (.pointer (some ⟨w5.heap.size, 0, none⟩)) (.int .i64 0) (w5.alloc (.cells #[.int .i64 N, .slice a' (freeR (chgM Mc [⟨0, 1, s⟩] true)).length c'] t)) := by
  subst hM
  have hk := (Below.refl w5.heap.size w5).onAlloc (.cells #[.int .i64 N, .slice a' (freeR (chgM Mc [⟨0, 1, s⟩] true)).length c'] t)
  exact ⟨la, lc, _, a', c', rfl, rfl, rfl, (ho.rd' (by simp)).keep hk, by simp, by simp, hr.keep hk, hf, hB.size, fun b o e => (ho.lt b (by rw [e]; rfl)).1, ((Below.refl wr.heap.size wr).drew.on hB).onAlloc _⟩
theorem flc_old {wr w5 : World} {N s : Nat} {Mc M' : List Bool} {am la a' : Option Addr} {lc c' : Nat} {u0 u1 : Value} (hM : chgM Mc [⟨0, 1, s⟩] true = M') (hB : Below wr.drew.heap.size wr.drew w5) (ho : OwnE w5 (wr.heap.size + 1) (.slice la 1 lc) [⟨0, 1, s⟩]) (hr : Rd w5 a' (freeR (chgM Mc [⟨0, 1, s⟩] true)))
    (hf : Fresh (freeR Mc = []) (freeR (chgM Mc [⟨0, 1, s⟩] true) = []) (wr.heap.size + 1) am a') (hlt : freeR Mc = [] ∨ ∀ b o, am = some ⟨b, o, none⟩ → b < wr.heap.size)
    (x0 : w5.cell? ⟨wr.heap.size, 0, none⟩ = some u0) (x1 : w5.cell? ⟨wr.heap.size, 1, none⟩ = some u1) :
    FlC wr N s Mc M' am (.slice la 1 lc) (.pointer (some ⟨wr.heap.size, 0, none⟩)) (.int .i64 0) ((w5.setCell ⟨wr.heap.size, 0, none⟩ (.int .i64 N)).setCell ⟨wr.heap.size, 1, none⟩ (.slice a' (freeR (chgM Mc [⟨0, 1, s⟩] true)).length c')) := by
  subst hM
  have ka := hf.away (away_lt hlt (Nat.le_refl _)) (Nat.lt_succ_self _)
  have hne : (Value.slice la 1 lc).ownBlock ≠ some wr.heap.size := fun e => by have := (ho.lt _ e).1; omega
  have ho' := (ho.away ⟨wr.heap.size, 0, none⟩ (.int .i64 N) hne).away ⟨wr.heap.size, 1, none⟩ (.slice a' (freeR (chgM Mc [⟨0, 1, s⟩] true)).length c') hne
  have e1 : (w5.setCell ⟨wr.heap.size, 0, none⟩ (.int .i64 N)).cell? ⟨wr.heap.size, 1, none⟩ = some u1 := by
    rw [World.cell?_setCell_other _ _ _ _ (by simp)]; exact x1
  refine ⟨la, lc, _, a', c', rfl, rfl, rfl, ho'.rd' (by simp), ?_, World.cell?_setCell_same _ _ _ e1, (hr.cell_ne _ _ _ ka).cell_ne _ _ _ ka, hf.mono (by omega), Nat.le_refl _, fun b o e => by have := (ho.lt b (by rw [e]; rfl)).1; omega, (((Below.refl wr.heap.size wr).drew.on hB).setCell (Nat.le_refl _) _).setCell (Nat.le_refl _) _⟩
  rw [World.cell?_setCell_other _ _ _ _ (by simp)]
  exact World.cell?_setCell_same _ _ _ x0
set_option maxRecDepth 100000 in
set_option maxHeartbeats 8000000 in
theorem law_fill35 (i : Int) (S : List Step35) (j : Int) (a : Option Addr) (c : Nat) (w : World) (hi : 0 ≤ i ∧ i ≤ 255) (hr : RdS35 w a S) (hj : 0 ≤ j ∧ j ≤ 255) :
    Calls Try.prog 15 #[.int .u8 i, .slice a S.length c, .int .u8 j] w fun e w' => e = .returned (.bool true) ∧ Below w.heap.size w w' := by
  obtain ⟨n, rfl⟩ := Int.eq_ofNat_of_zero_le hi.1
  have hn : n ≤ 255 := by omega
  have hlen := hr.1
  cases hf : (fewB35 S && decide (S.length ≤ 25))
  · have HF := Lib.hid hf
    clear hf
    go_enter Try.func15, Try.ntmps15
    go_wp2_with fail
    refine (awake35_any _).mono ?_
    rintro e w1 ⟨rfl, hb1⟩
    go_wp2_with fail
    refine (few35_is S a c _ (hr.keep hb1) _ HF.out).mono ?_
    rintro e w2 ⟨rfl, hb2⟩
    have hB2 := hb1.on hb2
    go_wp2_with fail
    go_ret
    exact ⟨rfl, hB2⟩
  have HF := Lib.hid hf
  clear hf
  go_enter Try.func15, Try.ntmps15
  go_wp2_with fail
  refine (awake35_any _).mono ?_
  rintro e w1 ⟨rfl, hb1⟩
  go_wp2_with fail
  refine (few35_is S a c _ (hr.keep hb1) _ HF.out).mono ?_
  rintro e w2 ⟨rfl, hb2⟩
  have hB2 := hb1.on hb2
  go_wp2_with fail
  have hff := HF.out
  simp only [Bool.and_eq_true, decide_eq_true_eq] at hff
  obtain ⟨h1, h2⟩ := hff
  have HFB := Lib.hid h1
  clear h1
  refine (build35_any n S a c _ hn (hr.keep hB2) HFB.out h2).mono ?_
  rintro e w3 ⟨M, am, an, cm, cn, rfl, hMl, hrm, hrn, hb3⟩
  have hN : M.length ≤ 65536 := by omega
  have hN99 : M.length ≤ 99 := by omega
  have HB := Lib.hid (hB2.on hb3)
  have HM := Lib.hid hrm
  have HN := Lib.hid hrn
  clear hMl hrm hrn hb3 hb1 hb2 hB2 hr HFB HF
  have hk0 := (Below.refl w3.heap.size w3).onAlloc (.cells #[.int .i64 M.length, .slice am (freeR M).length cm] 58)
  have HK0 := Lib.hid hk0
  have hltm := HM.out.lt
  have hltn := HN.out.lt
  have HLM := Lib.hid hltm
  have HLN := Lib.hid hltn
  clear hk0 hltm hltn
  go_upto_region 9 with ((at_make; refine wpList_make_M _ rfl _ _ 66 rfl Try.underlying66 _ _ M.length rfl rfl (by omega) w.heap.size (w3.heap.size + 1) (by simp) (by have := HB.out.size; omega) ?_; intro w4 ho4 hb4 hz4))
  rw [← seenL_start] at ho4
  have hbb := HK0.out.on hb4
  have HV : Hid (FlS w w4 w3.heap.size (w3.heap.size + 1) M.length M M am an cm) := Lib.hid
    ⟨hb4.keep (by simp), hb4.keep (by simp), hb4.keepF (v := .int .i64 M.length) (by simp) (by simp), hb4.keepF (v := .slice am (freeR M).length cm) (by simp) (by simp), HM.out.keep hbb, HN.out.keep hbb, away_lt HLM.out (by omega), away_lt HLM.out (by omega), away_lt HLN.out (by omega), away_lt HLN.out (by omega), ho4, by omega, HB.out.size, HB.out.on hbb⟩
  clear ho4 hb4 hz4 hbb HK0 HLM HLN HB HM HN
  go_wp2_with fail
  refine (qfree_is M (area (freeF M) M.length) an cn _ rfl HV.out.n hN).mono ?_
  rintro e w5 ⟨rfl, hb5⟩
  have HV := Lib.hid (HV.out.later hb5)
  have hz1 := area_le (freeF M) M.length
  have HFi := Lib.hid (fill_start M)
  generalize hz : area (freeF M) M.length = z at *
  clear hb5 hz
  generalize w3.heap.size + 1 = G at *
  generalize w3.heap.size = X at *
  obtain ⟨j', rfl⟩ := Int.eq_ofNat_of_zero_le hj.1
  obtain ⟨h', hh'⟩ : ∃ h', h' = j' % (M.length + 1) := ⟨_, rfl⟩
  have hhM : h' ≤ M.length := by
    have := Nat.mod_lt j' (show 0 < M.length + 1 by omega)
    omega
  have HH : Hid ((j' : Int) % ((M.length : Int) + 1) = (h' : Int)) := Lib.hid (by rw [hh']; simp)
  clear hh'
  go_wp2_with fail
  go_loopw [11] (fun v wr => ∃ (k : Nat) (Mc : List Bool) (am : Option Addr) (cm : Nat), k ≤ z ∧ v = .int .i64 k ∧ Fill M Mc k ∧ FlS w wr X G M.length M Mc am an cm) (fun v _ => (intOf v).toNat)
  case atStart => exact ⟨z, M, am, cm, Nat.le_refl _, rfl, HFi.out, HV.out⟩
  case round =>
    clear HV HFi
    obtain ⟨k, Mc, am, cm, hk, rfl, hfi, hv⟩ := hrel
    have HV := Lib.hid hv
    have HFi := Lib.hid hfi
    have hcl := hfi.len
    have HCL := Lib.hid hcl
    clear hv hfi hcl
    by_cases h0 : 0 < k
    · have h0b : decide (0 < k) = true := decide_eq_true h0
      have h0c : decide ((0 : Int) < k) = true := decide_eq_true (by omega)
      have HA1 : Hid (1 ≤ area (freeF Mc) Mc.length) := Lib.hid (by rw [HCL.out, HFi.out.area]; omega)
      obtain ⟨s, ht, hs⟩ := take_single (by rw [HCL.out]; exact hN) h' HA1.out
      have HT := Lib.hid ht
      obtain ⟨n1, n2, n3, n4⟩ := fill_next hN HFi.out s hs
      have HN1 := Lib.hid n1
      have HN2 := Lib.hid n2
      have HN3 := Lib.hid n3
      have HS0 := Lib.hid (HFi.out.sub s hs)
      generalize hM' : chgM Mc [⟨0, 1, s⟩] true = M' at *
      have HM' := Lib.hid hM'
      clear ht n1 n2 n3 hM' hs
      have t0 := HV.out.t0
      have t1 := HV.out.t1
      have g0 := HV.out.g0
      have g1 := HV.out.g1
      go_wp2_with fail
      go_cut [12, 13, 14] from 41 to 52 (fun l x e wx => FlC wr M.length s Mc M' am l x e wx)
      case first =>
        have HD := Lib.hid (HV.out.later (Below.refl wr.heap.size wr).drew)
        have q1 : IntKind.i64.wrap ((M.length : Int) + 1) = (M.length : Int) + 1 := IntWalk.i64_in _ (by omega)
        have q2 : ((j' : Int)).tmod ((M.length : Int) + 1) = (h' : Int) := by rw [Int.tmod_eq_emod_of_nonneg (by omega)]; exact HH.out
        have q3 := HH.out
        have q4 : ((M.length : Int) + 1 == 0) = false := by simp; omega
        have q5 : ¬ ((M.length : Int) + 1 = 0) := by omega
        have q6 : IntKind.i64.wrap (j' : Int) = (j' : Int) := IntWalk.i64_in _ (by omega)
        have hXw : X < wr.heap.size := World.block_lt_of_cell? _ _ t0
        have HAlt := Lib.hid HV.out.r.lt
        go_region_held3 (fun w' => w'.cell? ⟨X, 0, none⟩ = some (.int .i64 M.length) ∧ w'.cell? ⟨X, 1, none⟩ = some (.slice am (freeR Mc).length cm) ∧ Below wr.drew.heap.size wr.drew w')
          (first
            | exact ⟨t0, t1, Below.refl _ _⟩
            | (have hH := ‹_ ∧ _ ∧ Below wr.drew.heap.size wr.drew _›; first | exact hH | exact ⟨(HD.out.later hB5).t0, (HD.out.later hB5).t1, hB5⟩ | exact ⟨(HD.out.later (hB5.onAlloc _)).t0, (HD.out.later (hB5.onAlloc _)).t1, hB5.onAlloc _⟩ | exact ⟨(HD.out.later (hH.2.2.onAlloc _)).t0, (HD.out.later (hH.2.2.onAlloc _)).t1, hH.2.2.onAlloc _⟩ | exact ⟨(HD.out.later ((hB5.setCell (Nat.le_refl _) _).setCell (Nat.le_refl _) _)).t0, (HD.out.later ((hB5.setCell (Nat.le_refl _) _).setCell (Nat.le_refl _) _)).t1, (hB5.setCell (Nat.le_refl _) _).setCell (Nat.le_refl _) _⟩))
          ((go_at_call 35; have hH := ‹_ ∧ _ ∧ Below wr.drew.heap.size wr.drew _›; refine (atake_one Mc M.length h' s am cm _ HCL.out HT.out (HD.out.later hH.2.2).r (by rw [HCL.out]; exact hN) hhM (by rw [← HCL.out]; exact HA1.out)).mono ?_; rintro e w5 ⟨la, lc, a', c', rfl, ho5, hr5, hf5, hb5⟩; have hB5 := hH.2.2.on hb5; have hz5 := hH.2.2.size; (try (have hq1 := keepNew35d hb5; have hx0 := hq1.1; have hx1 := hq1.2.1; have hy0 := hq1.2.2.1; have hy1 := hq1.2.2.2; clear hq1)); (try (have hq1 := keepNew35 hb5; have hx0 := hq1.1; have hx1 := hq1.2.1; have hy0 := hq1.2.2.1; have hy1 := hq1.2.2.2; clear hq1))))
        · have HQ := Lib.hid (flc_new (N := M.length) (c' := c') HM'.out hB5 (ho5.mono hz5) hr5 (hf5.mono hz5) (t := 58))
          clear ho5 hr5 hf5 hb5 hB5 hz5 t0 t1 g0 g1 q1 q2 q3 q4 q5 q6 HD
          go_wp2_with fail
          go_meet
          exact HQ.out
        all_goals
          have ho6 : OwnE w5 (wr.heap.size + 1) (.slice la 1 lc) [⟨0, 1, s⟩] := by simpa using ho5
          have hf6 : Fresh (freeR Mc = []) (freeR (chgM Mc [⟨0, 1, s⟩] true) = []) (wr.heap.size + 1) am a' := by simpa using hf5
          have HQ := Lib.hid (flc_old (N := M.length) (c' := c') HM'.out hB5 ho6 hr5 hf6 HAlt.out hx0 hx1)
          clear ho5 hr5 hf5 hb5 hB5 hz5 t0 t1 g0 g1 q1 q2 q3 q4 q5 q6 HD hx0 hx1 hy0 hy1 ho6 hf6
          go_wp2_with fail
          go_meet
          exact HQ.out
      case rest =>
        obtain ⟨la, lc, Y, a', c', rfl, rfl, rfl, hrl, x0, x1, hr', hfr, hY, hla, hB⟩ := hcut
        obtain ⟨W2, rfl⟩ : ∃ W2 : World, W2 = wc := ⟨_, rfl⟩
        have HV2 := Lib.hid (HV.out.later hB)
        have HK1 := Lib.hid (hfr.away HV.out.aX (by have := HV.out.lt; have := HV.out.XG; omega))
        have HK2 := Lib.hid (hfr.away HV.out.aG HV.out.lt)
        have HR2 := Lib.hid hr'
        obtain ⟨b, o, rfl, hat⟩ := hrl.at (by simp)
        obtain ⟨h1, h2, h3⟩ := hat 0 _ rfl
        simp only [Nat.zero_mul, Nat.add_zero] at h1 h2 h3
        have hbG : ¬ b = G := by have := hla b o rfl; have := HV.out.lt; omega
        have hbX : ¬ b = X := by have := hla b o rfl; have := HV.out.lt; have := HV.out.XG; omega
        have hGX : ¬ G = X := by have := HV.out.XG; omega
        have hXG : ¬ X = G := by have := HV.out.XG; omega
        have hYG : ¬ Y = G := by have := HV.out.lt; omega
        have hYX : ¬ Y = X := by have := HV.out.lt; have := HV.out.XG; omega
        obtain ⟨bn, on, he, hatn⟩ := HV2.out.n.at (by omega)
        have hn1 := hatn s _ (getD_someM M s n4)
        have hm1 : M.getD s false = false := by
          have := HS0.out
          rw [freeF_in M s n4] at this
          simpa using this
        rw [hm1] at hn1
        have hsn := HV2.out.s.cells.1 s _ (getD_someM _ s (by unfold seenL; rw [mk_length]; exact n4))
        rw [HN3.out] at hsn
        have hsf := HV2.out.s.cells.2 s
        have HXT := Lib.hid (HV2.out.next s HN2.out rfl HR2.out HK1.out HK2.out (c' := c'))
        subst he
        clear t0 t1 g0 g1 hrl hr' hfr hat hatn hla hB
        have t0 := HV2.out.t0
        have t1 := HV2.out.t1
        have g0 := HV2.out.g0
        have g1 := HV2.out.g1
        go_wp2_with fail
        go_roundw
        case rel => exact ⟨k - 1, M', a', c', by omega, by congr 1; omega, HN1.out, HXT.out⟩
        case measure => simp [intOf]; omega
    · obtain rfl : k = 0 := by omega
      have HA0 := Lib.hid HFi.out.area
      have HLZ : Hid (lenL (freeR Mc) = 0) := Lib.hid (by rw [lenL_free Mc (by rw [HCL.out]; exact hN), HCL.out, HA0.out]; rfl)
      have HCn := Lib.hid (freeR_canon Mc)
      have t0 := HV.out.t0
      have t1 := HV.out.t1
      have g0 := HV.out.g0
      have g1 := HV.out.g1
      go_wp2_with fail
      refine (atake_none Mc M.length am cm _ HCL.out HV.out.r (by rw [HCL.out]; exact hN) HA0.out).mono ?_
      rintro e w6 ⟨rfl, hb6⟩
      have hk := (hb6.onAlloc (.cells #[.int .i64 0, .slice none 0 0] 58))
      have HV := Lib.hid (HV.out.later hk)
      clear t0 t1 g0 g1 hb6 hk
      have t0 := HV.out.t0
      have t1 := HV.out.t1
      have g0 := HV.out.g0
      have g1 := HV.out.g1
      go_wp2_with fail
      refine (afree_is M.length (freeR Mc) 0 am cm _ HLZ.out HV.out.r HCn.out).mono ?_
      rintro e w7 ⟨rfl, hb7⟩
      have hB := HV.out.B.on hb7
      go_wp2_with fail
      go_ret
      exact ⟨rfl, hB⟩
end Go.Proofs.Ytolhajkbamhdgaa
