/-
  Chapter 35: the statements' helper build.
  Conditions: as the theorem says.
-/
import Derived.Test.YtolhajkbamhdgaaAlM
namespace Go.Proofs.Ytolhajkbamhdgaa
set_option linter.unusedSimpArgs false
set_option linter.unusedVariables false
open Go.RowKit

theorem freeR_zeros (m : Nat) (hm : m ≤ 65536) : freeR (List.replicate m false) = if m = 0 then [] else [⟨0, m, 0⟩] := by
  by_cases h0 : m = 0
  · subst h0
    simp [freeR, picks_zero]
    exact (runs_is [] [] canon_nil fun _ => Iff.rfl).symm
  · rw [if_neg h0]
    have hok : okB (⟨0, m, 0⟩ : E) = true := (okB_iff _).2 ⟨by simp only; omega, by simp, by simp, by simp only; omega, by simp only; omega⟩
    refine runs_ext (freeR_canon _) (canon_of rfl hok canon_nil (by simp)) fun i _ => ?_
    rw [hasB_free _ (by simpa using hm), hasB_one _ hok, Bool.eq_iff_iff, inX_iff]
    simp only [freeF, List.getD_eq_getElem?_getD, List.getElem?_replicate]
    by_cases hi : i < m
    · rw [if_pos hi]; simp; omega
    · rw [if_neg hi]; simp; omega
def ANew (m : Nat) (w : World) (e : Ending) (w' : World) : Prop :=
  ∃ (a : Option Addr) (c : Nat), e = .returned (.tuple #[.agg #[.int .i64 m, .slice a (freeR (List.replicate m false)).length c], .int .i64 0]) ∧ Rd w' a (freeR (List.replicate m false)) ∧ (freeR (List.replicate m false) = [] ∨ ∀ b o, a = some ⟨b, o, none⟩ → w.heap.size ≤ b) ∧ Below w.heap.size w w'
theorem anew_any (m : Nat) (w : World) (hm : m ≤ 65536) : Calls Try.prog 34 #[.int .i64 m] w (ANew m w) := by
  by_cases h0 : m = 0
  · subst h0
    refine (anew_zero w).mono fun e w' ⟨he, hb⟩ => ?_
    have := freeR_zeros 0 (by omega)
    simp only [if_true] at this
    exact ⟨none, 0, by rw [this]; exact he, by rw [this]; exact ⟨by simp, .inl rfl⟩, .inl this, hb⟩
  · refine (anew_yes m w (by omega) hm).mono fun e w' ⟨v, he, ho, hb⟩ => ?_
    have := freeR_zeros m hm
    rw [if_neg h0] at this
    obtain ⟨a, c, rfl, hr⟩ := ho.rd (by simp)
    exact ⟨a, c, by rw [this]; exact he, by rw [this]; exact hr, .inr fun b o e => (ho.lt b (by rw [e]; rfl)).1, hb⟩
/-- The variables of build: m lies in block T, n is a value; w0 is the world of the call's beginning. -/
structure Pair35 (w0 w : World) (T m : Nat) (M : List Bool) (am an : Option Addr) (cm cn : Nat) : Prop where
  len : M.length = m
  t0 : w.cell? ⟨T, 0, none⟩ = some (.int .i64 m)
  t1 : w.cell? ⟨T, 1, none⟩ = some (.slice am (freeR M).length cm)
  g0 : w.frozen? ⟨T, 0, none⟩ = false
  g1 : w.frozen? ⟨T, 1, none⟩ = false
  hm : Rd w am (freeR M)
  hn : RdM w an M
  mt : Away (freeR M = []) am T
  nt : Away (M = []) an T
  mr : Away (freeR M = []) am w0.heap.size
  nr : Away (M = []) an w0.heap.size
  r0 : w.cell? ⟨w0.heap.size, 0, none⟩ = some (.int .i64 0)
  r1 : w.cell? ⟨w0.heap.size, 1, none⟩ = some (.slice none 0 0)
  f0 : w.frozen? ⟨w0.heap.size, 0, none⟩ = false
  f1 : w.frozen? ⟨w0.heap.size, 1, none⟩ = false
  T1 : w0.heap.size < T
  B : Below w0.heap.size w0 w
section
variable {w0 w w' : World} {T m : Nat} {M M' : List Bool} {am an a' b' : Option Addr} {cm cn c' d' : Nat}
theorem Pair35.later (h : Pair35 w0 w T m M am an cm cn) (hb : Below w.heap.size w w') : Pair35 w0 w' T m M am an cm cn :=
  ⟨h.len, hb.keep h.t0, hb.keep h.t1, hb.keepF h.t0 h.g0, hb.keepF h.t1 h.g1, h.hm.keep hb, h.hn.keep hb, h.mt, h.nt, h.mr, h.nr, hb.keep h.r0, hb.keep h.r1, hb.keepF h.r0 h.f0, hb.keepF h.r1 h.f1, h.T1, h.B.on hb⟩
theorem Pair35.lt (h : Pair35 w0 w T m M am an cm cn) : T < w.heap.size := World.block_lt_of_cell? w _ h.t0
/-- Both are given new values. -/
theorem Pair35.put (h : Pair35 w0 w T m M am an cm cn) (hl : M'.length = m) (hr : Rd w a' (freeR M')) (hd : RdM w b' M') (B : Nat) (hB : T < B)
    (f1 : Fresh (freeR M = []) (freeR M' = []) B am a') (f2 : Fresh (M = []) (M' = []) B an b') :
    Pair35 w0 ((w.setCell ⟨T, 0, none⟩ (.int .i64 m)).setCell ⟨T, 1, none⟩ (.slice a' (freeR M').length c')) T m M' a' b' c' d' := by
  have hT := h.T1
  have far : ∀ x1 : Value, ∀ b i, b ≠ T → ((w.setCell ⟨T, 0, none⟩ (.int .i64 m)).setCell ⟨T, 1, none⟩ x1).cell? ⟨b, i, none⟩ = w.cell? ⟨b, i, none⟩ := fun x1 b i hb => by
    rw [World.cell?_setCell_far _ _ _ _ (Ne.symm hb), World.cell?_setCell_far _ _ _ _ (Ne.symm hb)]
  have e1 : (w.setCell ⟨T, 0, none⟩ (.int .i64 m)).cell? ⟨T, 1, none⟩ = some (.slice am (freeR M).length cm) := by
    rw [World.cell?_setCell_other _ _ _ _ (by simp)]; exact h.t1
  have k1 := f1.away h.mt hB
  have k2 := f2.away h.nt hB
  refine ⟨hl, ?_, World.cell?_setCell_same _ _ _ e1, by rw [World.frozen?_setCell, World.frozen?_setCell]; exact h.g0, by rw [World.frozen?_setCell, World.frozen?_setCell]; exact h.g1, (hr.cell_ne _ _ _ k1).cell_ne _ _ _ k1, (hd.cell_ne _ _ _ k2).cell_ne _ _ _ k2, k1, k2, f1.away h.mr (by omega), f2.away h.nr (by omega),
    by rw [far _ _ _ (by omega)]; exact h.r0, by rw [far _ _ _ (by omega)]; exact h.r1, by rw [World.frozen?_setCell, World.frozen?_setCell]; exact h.f0, by rw [World.frozen?_setCell, World.frozen?_setCell]; exact h.f1, hT, (h.B.setCell (by simp; omega) _).setCell (by simp; omega) _⟩
  rw [World.cell?_setCell_other _ _ _ _ (by simp)]
  exact World.cell?_setCell_same _ _ _ h.t0
end
/-- What build leaves: both maps read as one list of marks. -/
def BuildPost35 (m : Nat) (w : World) (e : Ending) (w' : World) : Prop :=
  ∃ (M : List Bool) (a a2 : Option Addr) (c c2 : Nat), e = .returned (.tuple #[.agg #[.int .i64 M.length, .slice a (freeR M).length c], .slice a2 M.length c2, .bool true]) ∧ M.length = m ∧ Rd w' a (freeR M) ∧ RdM w' a2 M ∧ Below w.heap.size w w'
theorem build_end {w0 w : World} {T m : Nat} {M : List Bool} {am an : Option Addr} {cm cn : Nat} {x0 x1 : Value} (h : Pair35 w0 w T m M am an cm cn) :
    BuildPost35 m w0 (.returned (.tuple #[.agg #[.int .i64 M.length, .slice am (freeR M).length cm], .slice an M.length cn, .bool true])) ((w.setCell ⟨w0.heap.size, 0, none⟩ x0).setCell ⟨w0.heap.size, 1, none⟩ x1) :=
  ⟨M, am, an, cm, cn, rfl, h.len, (h.hm.cell_ne _ _ _ h.mr).cell_ne _ _ _ h.mr, (h.hn.cell_ne _ _ _ h.nr).cell_ne _ _ _ h.nr, (h.B.setCell (by simp) _).setCell (by simp) _⟩
set_option maxRecDepth 100000 in
set_option maxHeartbeats 8000000 in
theorem build35_any (n : Nat) (S : List Step35) (a : Option Addr) (c : Nat) (w : World) (hn : n ≤ 255) (hr : RdS35 w a S) (hf : fewB35 S = true) (h25 : S.length ≤ 25) :
    Calls Try.prog 43 #[.int .u8 n, .slice a S.length c] w (BuildPost35 (n % 100) w) := by
  have hm0 : n % 100 ≤ 65536 := by omega
  have hmod : ((n : Int) % 100) = ((n % 100 : Nat) : Int) := by omega
  obtain ⟨m, hm⟩ : ∃ m, m = n % 100 := ⟨_, rfl⟩
  have HM := Lib.hid hmod
  rw [← hm] at hm0 HM ⊢
  have hm100 : m < 100 := by omega
  clear hm hmod
  go_enter Try.func43, Try.ntmps43
  go_wp2_with fail
  rw [HM.out]
  refine (anew_any m _ hm0).mono ?_
  rintro e w1 ⟨am, cm, rfl, hr1, hb1, hk1⟩
  have r0 := hk1.keep (a := ⟨w.heap.size, 0, none⟩) (v := .int .i64 0) (by simp)
  have r1 := hk1.keep (a := ⟨w.heap.size, 1, none⟩) (v := .slice none 0 0) (by simp)
  have f0 := hk1.keepF (a := ⟨w.heap.size, 0, none⟩) (v := .int .i64 0) (by simp) (b := false) (by simp)
  have f1 := hk1.keepF (a := ⟨w.heap.size, 1, none⟩) (v := .slice none 0 0) (by simp) (b := false) (by simp)
  have hB1 : Below w.heap.size w w1 := (((Below.refl w.heap.size w).onAlloc _)).on hk1
  have hT0 : w.heap.size < w1.heap.size := World.block_lt_of_cell? w1 _ r0
  have hlt1 := hr1.lt
  generalize hRR : freeR (List.replicate m false) = R at *
  have HRR := Lib.hid hRR
  have H1 := Lib.hid hr1
  have HA1 := Lib.hid hb1
  have HL1 := Lib.hid hlt1
  clear hk1 hr1 hb1 hRR hlt1
  go_wp2_with fail
  rw [HM.out]
  refine (qnew_yes m _ hm0).mono ?_
  rintro e w2 ⟨v, rfl, ho2, hb2⟩
  obtain ⟨an, cn, rfl, hr2⟩ := ho2.rd (by simpa using hm0)
  rw [List.length_replicate] at ho2 ⊢
  have hbb := ((Below.refl w1.heap.size w1).onAlloc (.cells #[.int .i64 m, .slice am R.length cm] 58)).on hb2
  have t0 := hb2.keep (a := ⟨w1.heap.size, 0, none⟩) (v := .int .i64 m) (by simp)
  have t1 := hb2.keep (a := ⟨w1.heap.size, 1, none⟩) (v := .slice am R.length cm) (by simp)
  have g0 := hb2.keepF (a := ⟨w1.heap.size, 0, none⟩) (v := .int .i64 m) (by simp) (b := false) (by simp)
  have g1 := hb2.keepF (a := ⟨w1.heap.size, 1, none⟩) (v := .slice am R.length cm) (by simp) (b := false) (by simp)
  have hP : Pair35 w w2 w1.heap.size m (List.replicate m false) am an cm cn := by
    refine ⟨by simp, t0, by rw [HRR.out]; exact t1, g0, g1, by rw [HRR.out]; exact H1.out.keep hbb, hr2, ?_, ?_, ?_, ?_, hbb.keep r0, hbb.keep r1, hbb.keepF r0 f0, hbb.keepF r1 f1, hT0, hB1.on hbb⟩
    · rw [HRR.out]; exact away_lt HL1.out (Nat.le_refl _)
    · exact .inr fun b o e => by have := (ho2.lt b (by rw [e]; rfl)).1; simp at this; omega
    · rw [HRR.out]; exact HA1.out.imp id fun h b o e => by have := h b o e; simp at this; omega
    · exact .inr fun b o e => by have := (ho2.lt b (by rw [e]; rfl)).1; simp at this; omega
  have HFEW := Lib.hid hf
  have HP := Lib.hid hP
  generalize w1.heap.size = T at *
  clear ho2 hb2 hbb hr2 hB1 hf t0 t1 g0 g1 hP r0 r1 f0 f1 H1 HA1 HL1 HRR hT0
  go_wp2_with fail
  go_loopw [9, 11, 12] (fun d ok i wr => ∃ (k : Nat) (M : List Bool) (am an : Option Addr) (cm cn : Nat), k ≤ S.length ∧ i = .int .i64 k ∧ ok = .bool true ∧ d = .slice an m cn ∧ Pair35 w wr T m M am an cm cn) (fun _ _ i _ => S.length - (intOf i).toNat)
  case atStart => exact ⟨0, _, am, an, cm, cn, Nat.zero_le _, rfl, rfl, rfl, HP.out⟩
  case round =>
    clear HP
    obtain ⟨k, M, am, an, cm, cn, hk, rfl, rfl, rfl, hp⟩ := hrel
    obtain rfl := hp.len
    have HP := Lib.hid hp
    clear hp
    by_cases hlt : k < S.length
    · have h8 := fewB35_get HFEW.out hlt
      obtain ⟨b, o, rfl, hat⟩ := (hr.keep HP.out.B).at (by omega)
      have hst := hat k _ (List.getElem?_eq_getElem hlt)
      have hk0 : (0 : Int) ≤ k := by omega
      have hk1 : (k : Int) < S.length := by omega
      generalize S[k] = x at *
      obtain ⟨al, cl, s3, s4, s5, s6⟩ := hst.l
      have HRL := Lib.hid (s5 (by omega))
      have HW := Lib.hid s6
      have s0 := hst.k
      have s1 := hst.n
      have s2 := hst.h
      have bk := hst.bk
      have bn := hst.bn
      have bh := hst.bh
      clear hat hst hr s4 s5 s6
      have t0 := HP.out.t0
      have t1 := HP.out.t1
      have g0 := HP.out.g0
      have g1 := HP.out.g1
      go_wp2_with fail
      have HD := Lib.hid (HP.out.later (Below.refl wr.heap.size wr).drew)
      have HRL2 := Lib.hid (HRL.out.keep (Below.refl wr.heap.size wr).drew)
      have HTl := Lib.hid HP.out.lt
      go_region_law ((go_simp; go_at_call 48; refine (step35_any M x am an al cm cn cl _ hm0 HD.out.hm HD.out.hn HRL2.out HW.out h8 bk bn bh).mono ?_; rintro e w5 ⟨M', a', c', b', d', hl', rfl, hr', hd', fm, fn, hb5⟩; have HP5 := Lib.hid (HD.out.later hb5); have q0 := HP5.out.t0; have q1 := HP5.out.t1; have q2 := HP5.out.g0; have q3 := HP5.out.g1))
      all_goals
        have HN := Lib.hid (HP5.out.put (cn := cn) (cm := cm) (c' := c') (d' := d') hl' hr' hd' wr.drew.heap.size HTl.out fm fn)
        clear hl' hr' hd' fm fn hb5 HP5 q0 q1 q2 q3 t0 t1 g0 g1
        go_wp2_with fail
        go_roundw
        case rel => exact ⟨k + 1, M', a', b', c', d', by omega, by go_num, rfl, rfl, HN.out⟩
        case measure => simp [intOf]; omega
    · have t0 := HP.out.t0
      have t1 := HP.out.t1
      have g0 := HP.out.g0
      have g1 := HP.out.g1
      go_wp2_with fail
      have HD := Lib.hid (HP.out.later (Below.refl wr.heap.size wr).drew)
      go_region_law ((go_simp; go_at_call 46; refine (same35_any M am an cm cn _ hm0 HD.out.hm HD.out.hn).mono ?_; rintro e w5 ⟨rfl, hb5⟩; have HP5 := Lib.hid (HD.out.later hb5); have q0 := HP5.out.t0; have q1 := HP5.out.t1; have q2 := HP5.out.r0; have q3 := HP5.out.r1; have q4 := HP5.out.f0; have q5 := HP5.out.f1))
      all_goals
        go_wp2_with fail
        refine bodyPost_ret (v := .tuple #[.agg #[.int .i64 M.length, .slice am (freeR M).length cm], .slice an M.length cn, .bool true]) ?_ rfl (build_end HP5.out)
        simp [results, Try.results43, go_sem, q2, q3, q4, q5]
end Go.Proofs.Ytolhajkbamhdgaa
