/-
  Chapter 35: the walk of the law AllocLarge; lists of uint16 opened.
  Conditions: none beyond that the arguments can be read.
-/
import Derived.Test.YtolhajkbamhdgaaAlK
import Derived.Test.YtolhajkbamhdgaaTgW
namespace Go.Proofs.Ytolhajkbamhdgaa
set_option linter.unusedSimpArgs false
set_option linter.unusedVariables false
open Go.ChangeShapes Go.WideShapes Go.ChangeAt Go.RowKit Go.Deep

/-- The slice 'a, length' reads as a list of uint16. -/
def RdU (w : World) (a : Option Addr) (L : List Int) : Prop :=
  L.length ≤ 9223372036854775807 ∧ (L = [] ∨ ∃ b o, a = some ⟨b, o, none⟩ ∧ ∀ k x, L[k]? = some x → w.cell? ⟨b, o + k, none⟩ = some (.int .u16 x) ∧ 0 ≤ x ∧ x ≤ 65535)
theorem RdU.keep {w w' : World} (h : Below w.heap.size w w') {a : Option Addr} {L : List Int} (hr : RdU w a L) : RdU w' a L :=
  ⟨hr.1, hr.2.imp id fun ⟨b, o, ha, hat⟩ => ⟨b, o, ha, fun k x hk => ⟨h.keep (hat k x hk).1, (hat k x hk).2⟩⟩⟩
theorem RdU.at {w : World} {a : Option Addr} {L : List Int} (hr : RdU w a L) (h : 0 < L.length) : ∃ b o, a = some ⟨b, o, none⟩ ∧ ∀ k x, L[k]? = some x → w.cell? ⟨b, o + k, none⟩ = some (.int .u16 x) ∧ 0 ≤ x ∧ x ≤ 65535 :=
  hr.2.resolve_left (by intro e; rw [e] at h; simp at h)
section
variable {H : Type} {enc : TypeId × Value → H} {w : World}
set_option maxRecDepth 100000 in
theorem open_u16s {a : Option Addr} {len cap fuel : Nat} {x : DataW H × List MemPlace} (h : DataW.trod enc Try.prog w 0 (fun _ => true) true fuel 56 [.slice a len cap] = some x) :
    ∃ L : List Int, L.length = len ∧ (len ≤ 9223372036854775807 ∧ len ≤ cap ∧ cap ≤ 9223372036854775807) ∧ RdU w a L := by
  have hce : Try.prog.cellsOf 51 = 1 := by kernel_rfl
  rcases open_slice Try.underlying56 h with ⟨hcs, _⟩ | ⟨ad, len', cap', m, n, D, Pl, hcs, hb, hl, hm, hmm, hx, hi⟩
  · simp at hcs
    obtain ⟨rfl, rfl, rfl⟩ := hcs
    exact ⟨[], rfl, ⟨by omega, by omega, by omega⟩, ⟨by simp, .inl rfl⟩⟩
  · simp at hcs
    obtain ⟨rfl, rfl, rfl⟩ := hcs
    simp only [if_true] at hmm
    subst hmm
    obtain ⟨L, hlen, hp⟩ := list_of35 (P := fun i (x : Int) => w.cell? (ad.add i) = some (.int .u16 x) ∧ 0 ≤ x ∧ x ≤ 65535) len (fun i hlt => by
      obtain ⟨cs', hc, ht'⟩ := hi i (by omega)
      rw [hce] at hc
      obtain ⟨_, hcl, hat⟩ := World.cells?_some hc
      obtain ⟨v, k0, _, w0⟩ := DataW.trod_int Try.underlying51 ht'
      have h0 := hat 0 (by omega)
      rw [k0] at h0
      refine ⟨v, ?_, bounds_u16 w0⟩
      rw [Go.Deep.add_add] at h0
      simpa using h0)
    refine ⟨L, hlen, by unfold maxLen at hm; exact ⟨by omega, hl, by omega⟩, ⟨by unfold maxLen at hm; omega, ?_⟩⟩
    by_cases h0 : L = []
    · exact .inl h0
    · refine .inr ?_
      obtain ⟨b, off, spot⟩ := ad
      have h00 : 0 < L.length := List.length_pos_iff.2 h0
      obtain ⟨z0, _⟩ := hp 0 _ (List.getElem?_eq_getElem h00)
      have hspot : spot = none := by simpa [Addr.add] using World.cell?_spot z0
      subst hspot
      refine ⟨b, off, rfl, fun k x hk => ?_⟩
      obtain ⟨c0, c1⟩ := hp k x hk
      have hadd : ∀ j, (⟨b, off, none⟩ : Addr).add j = ⟨b, off + j, none⟩ := fun j => by unfold Addr.add; split <;> simp_all
      rw [hadd] at c0
      exact ⟨c0, c1⟩
end

/-! ### A map that is used up to a slot -/
structure Upto (M : List Bool) (N e : Nat) : Prop where
  len : M.length = N
  le : e ≤ N
  free : ∀ i, freeF M i = (decide (e ≤ i) && decide (i < N))
theorem upto_start (N : Nat) : Upto (List.replicate N false) N 0 := by
  refine ⟨by simp, Nat.zero_le _, fun i => ?_⟩
  by_cases hi : i < N
  · rw [freeF_get _ i (by simpa using hi)]; simp [hi]
  · rw [freeF_far _ i (by simp; omega)]; simp [hi]
theorem upto_area {M : List Bool} {N e : Nat} (h : Upto M N e) : area (freeF M) N = N - e := by
  rw [area_congr _ _ _ fun i _ => h.free i, area_span e N N h.le]
  have := h.le
  omega
theorem upto_take {M : List Bool} {N e n : Nat} (hN : N ≤ 65536) (h : Upto M N e) (hn : 1 ≤ n) (hle : e + n ≤ N) : takeL M n e = [⟨0, n, e⟩] := by
  refine take_behind (by rw [h.len]; exact hN) hn (Nat.le_refl _) ((roomB_iff _ _ _).2 fun j hj => ?_) fun t h1 h2 => absurd h1 (by omega)
  rw [h.free]
  simp
  omega
theorem upto_next {M : List Bool} {N e n : Nat} (h : Upto M N e) (hle : e + n ≤ N) : Upto (chgM M [⟨0, n, e⟩] true) N (e + n) := by
  refine ⟨by rw [chgM_length]; exact h.len, hle, fun i => ?_⟩
  by_cases hi : i < M.length
  · rw [free_chg _ _ _ _ hi, h.free, listF_one]
    have : inX (⟨0, n, e⟩ : E) i = (decide (e ≤ i) && decide (i < e + n)) := by
      rw [Bool.eq_iff_iff, inX_iff]
      simp only [Bool.and_eq_true, decide_eq_true_eq]
      omega
    rw [this, Bool.eq_iff_iff]
    have := h.len
    by_cases h1 : e ≤ i ∧ i < e + n
    · simp [h1]
      omega
    · have : (decide (e ≤ i) && decide (i < e + n)) = false := by simp; omega
      rw [this]
      simp
      omega
  · rw [freeF_far _ i (by rw [chgM_length]; omega)]
    have := h.len
    simp
    omega
theorem upto_runs {M : List Bool} {N e : Nat} (hN : N ≤ 65536) (h : Upto M N e) : freeR M = if e = N then [] else [⟨0, N - e, e⟩] := by
  have hl := h.le
  by_cases he : e = N
  · rw [if_pos he]
    refine runs_ext (freeR_canon _) canon_nil fun i _ => ?_
    rw [hasB_free _ (by rw [h.len]; exact hN), h.free, hasB_nil]
    simp
    omega
  · rw [if_neg he]
    have hok : okB (⟨0, N - e, e⟩ : E) = true := (okB_iff _).2 ⟨by simp only; omega, by simp, by simp only; omega, by simp only; omega, by simp only; omega⟩
    refine runs_ext (freeR_canon _) (canon_of rfl hok canon_nil (by simp)) fun i _ => ?_
    rw [hasB_free _ (by rw [h.len]; exact hN), h.free, hasB_one _ hok, Bool.eq_iff_iff, inX_iff]
    simp only [Bool.and_eq_true, decide_eq_true_eq]
    omega
theorem upto_max {M : List Bool} {N e : Nat} (hN : N ≤ 65536) (h : Upto M N e) : maxL (freeR M) = (N : Int) - e := by
  rw [upto_runs hN h]
  have := h.le
  by_cases he : e = N
  · rw [if_pos he]; simp [maxL]; omega
  · rw [if_neg he]; simp [maxL]; omega
theorem upto_len {M : List Bool} {N e : Nat} (hN : N ≤ 65536) (h : Upto M N e) : lenL (freeR M) = (N : Int) - e := by
  rw [lenL_free _ (by rw [h.len]; exact hN), h.len, upto_area h]
  have := h.le
  omega

theorem anew_gen (N : Nat) (z : Int) (w : World) (h : (N : Int) = z) (hN : N ≤ 65536) :
    Calls Try.prog 34 #[.int .i64 z] w fun e w' => ∃ (M : List Bool) (a : Option Addr) (c : Nat), Upto M N 0 ∧ e = .returned (.tuple #[.agg #[.int .i64 z, .slice a (freeR M).length c], .int .i64 0]) ∧ Rd w' a (freeR M) ∧ Below w.heap.size w w' := by
  subst h
  exact (anew_any N w hN).mono fun e w' ⟨a, c, he, hr, _, hb⟩ => ⟨_, a, c, upto_start N, he, hr, hb⟩
theorem atake_upto (M : List Bool) (N e n : Nat) (zN zn ze : Int) (a : Option Addr) (c : Nat) (w : World) (h1 : (N : Int) = zN) (h2 : (n : Int) = zn) (h3 : (e : Int) = ze) (hU : Upto M N e) (hN : N ≤ 65536) (hr : Rd w a (freeR M)) (hn : 1 ≤ n) (hle : e + n ≤ N) :
    Calls Try.prog 35 #[.agg #[.int .i64 zN, .slice a (freeR M).length c], .int .i64 zn, .int .i64 ze] w fun en w' => ∃ (la : Option Addr) (lc : Nat) (M' : List Bool) (a' : Option Addr) (c' : Nat), en = .returned (.tuple #[.slice la 1 lc, .agg #[.int .i64 zN, .slice a' (freeR M').length c'], .int .i64 0]) ∧ Upto M' N (e + n) ∧
      OwnE w' w.heap.size (.slice la 1 lc) [⟨0, zn, ze⟩] ∧ Rd w' a' (freeR M') ∧ Fresh (freeR M = []) (freeR M' = []) w.heap.size a a' ∧ Below w.heap.size w w' := by
  subst h1 h2 h3
  have hlen := hU.len
  have ht := upto_take hN hU hn hle
  have hnx := upto_next hU hle
  have hf : n ≤ area (freeF M) M.length := by rw [hlen, upto_area hU]; omega
  have hcon := atake_all M n e a c w hr (by omega) (by omega) hf
  rw [hlen] at hcon
  refine hcon.mono fun en w' ⟨v1, v2, he, ho, ⟨a', c', hv, hr', hf'⟩, hb⟩ => ?_
  rw [ht] at ho hv hr' hf'
  rw [hlen] at he
  obtain ⟨la, lc, rfl, _⟩ := ho.rd (by simp)
  exact ⟨la, lc, _, a', c', by rw [he, hv]; rfl, hnx, ho, hr', hf', hb⟩
theorem atake_over (M : List Bool) (N e n : Nat) (zN zn ze : Int) (a : Option Addr) (c : Nat) (w : World) (h1 : (N : Int) = zN) (h2 : (n : Int) = zn) (h3 : (e : Int) = ze) (hU : Upto M N e) (hN : N ≤ 65536) (hr : Rd w a (freeR M)) (hle : N < e + n) :
    Calls Try.prog 35 #[.agg #[.int .i64 zN, .slice a (freeR M).length c], .int .i64 zn, .int .i64 ze] w fun e w' => e = .returned (.tuple #[.slice none 0 0, .agg #[.int .i64 0, .slice none 0 0], .int .i64 11]) ∧ Below w.heap.size w w' := by
  subst h1 h2 h3
  have := hU.le
  exact atake_space N (freeR M) n e a c w hN hr (freeR_canon M) ((askB_iff _ _ _).2 ⟨by omega, by omega, by omega⟩) (by rw [upto_len hN hU]; omega)
/-- m lies in block X. -/
structure LgS (w0 W : World) (X : Nat) (M : List Bool) (a : Option Addr) (c : Nat) : Prop where
  t0 : W.cell? ⟨X, 0, none⟩ = some (.int .i64 65536)
  t1 : W.cell? ⟨X, 1, none⟩ = some (.slice a (freeR M).length c)
  g0 : W.frozen? ⟨X, 0, none⟩ = false
  g1 : W.frozen? ⟨X, 1, none⟩ = false
  r : Rd W a (freeR M)
  aX : Away (freeR M = []) a X
  wX : w0.heap.size ≤ X
  B : Below w0.heap.size w0 W
section
variable {w0 W W' : World} {X : Nat} {M M' : List Bool} {a a' : Option Addr} {c c' : Nat}
theorem LgS.later (h : LgS w0 W X M a c) (hb : Below W.heap.size W W') : LgS w0 W' X M a c :=
  ⟨hb.keep h.t0, hb.keep h.t1, hb.keepF h.t0 h.g0, hb.keepF h.t1 h.g1, h.r.keep hb, h.aX, h.wX, h.B.on hb⟩
theorem LgS.lt (h : LgS w0 W X M a c) : X < W.heap.size := World.block_lt_of_cell? W _ h.t0
theorem LgS.put (h : LgS w0 W X M a c) (hr : Rd W a' (freeR M')) (k1 : Away (freeR M' = []) a' X) : LgS w0 ((W.setCell ⟨X, 0, none⟩ (.int .i64 65536)).setCell ⟨X, 1, none⟩ (.slice a' (freeR M').length c')) X M' a' c' := by
  have e1 : (W.setCell ⟨X, 0, none⟩ (.int .i64 65536)).cell? ⟨X, 1, none⟩ = some (.slice a (freeR M).length c) := by
    rw [World.cell?_setCell_other _ _ _ _ (by simp)]; exact h.t1
  refine ⟨?_, World.cell?_setCell_same _ _ _ e1, by simp only [World.frozen?_setCell]; exact h.g0, by simp only [World.frozen?_setCell]; exact h.g1, (hr.cell_ne _ _ _ k1).cell_ne _ _ _ k1, k1, h.wX, (h.B.setCell h.wX _).setCell h.wX _⟩
  rw [World.cell?_setCell_other _ _ _ _ (by simp)]
  exact World.cell?_setCell_same _ _ _ h.t0
end
set_option maxRecDepth 100000 in
set_option maxHeartbeats 8000000 in
theorem law_large35 (L : List Int) (a : Option Addr) (c : Nat) (w : World) (hr : RdU w a L) :
    Calls Try.prog 9 #[.slice a L.length c] w fun e w' => e = .returned (.bool true) ∧ Below w.heap.size w w' := by
  have hlen := hr.1
  by_cases h12 : 12 < L.length
  · go_enter Try.func9, Try.ntmps9
    go_wp2_with fail
    refine (awake35_any _).mono ?_
    rintro e w1 ⟨rfl, hb1⟩
    go_wp2_with fail
    go_ret
    exact ⟨rfl, hb1⟩
  go_enter Try.func9, Try.ntmps9
  go_wp2_with fail
  refine (awake35_any _).mono ?_
  rintro e w1 ⟨rfl, hb1⟩
  have hr1 := hr.keep hb1
  go_wp2_with fail
  refine (anew_gen 65536 65536 _ (by omega) (Nat.le_refl _)).mono ?_
  rintro e w2 ⟨M, am, cm, hU, rfl, hrm, hb2⟩
  have hka := (Below.refl w2.heap.size w2).onAlloc (.cells #[.int .i64 65536, .slice am (freeR M).length cm] 58)
  have HV : Hid (LgS w (w2.alloc (.cells #[.int .i64 65536, .slice am (freeR M).length cm] 58)) w2.heap.size M am cm) := Lib.hid ⟨by simp, by simp, by simp, by simp, hrm.keep hka, away_lt hrm.lt (Nat.le_refl _), (hb1.on hb2).size, (hb1.on hb2).on hka⟩
  have HRU := Lib.hid hr
  have HU := Lib.hid hU
  clear hr hb1 hr1 hb2 hrm hka hU
  go_wp2_with fail
  generalize w2.alloc (.cells #[.int .i64 65536, .slice am (freeR M).length cm] 58) = W2 at *
  generalize w2.heap.size = X at *
  go_loopw [5, 6] (fun v t wr => ∃ (k e : Nat) (M : List Bool) (am : Option Addr) (cm : Nat), k ≤ L.length ∧ t = .int .i64 k ∧ v = .int .i64 e ∧ Upto M 65536 e ∧ LgS w wr X M am cm) (fun _ t _ => L.length - (intOf t).toNat)
  case atStart => exact ⟨0, 0, M, am, cm, Nat.zero_le _, rfl, rfl, HU.out, HV.out⟩
  case round =>
    clear HV HU
    obtain ⟨k, e, M, am, cm, hk, rfl, rfl, hU, hv⟩ := hrel
    have HV := Lib.hid hv
    have HU := Lib.hid hU
    have he := hU.le
    clear hv hU
    have t0 := HV.out.t0
    have t1 := HV.out.t1
    have g0 := HV.out.g0
    have g1 := HV.out.g1
    by_cases hlt : k < L.length
    · obtain ⟨b, o, rfl, hat⟩ := (HRU.out.keep HV.out.B).at (by omega)
      obtain ⟨h1, h2, h3⟩ := hat k _ (List.getElem?_eq_getElem hlt)
      generalize L[k] = x at *
      obtain ⟨x, rfl⟩ := Int.eq_ofNat_of_zero_le h2
      clear hat
      by_cases hle : e + (1 + x) ≤ 65536
      · go_wp2_with fail
        refine (atake_upto M 65536 e (1 + x) 65536 (1 + x) e am cm _ (by omega) (by omega) rfl HU.out (Nat.le_refl _) HV.out.r (by omega) hle).mono ?_
        rintro en w3 ⟨la, lc, M', a', c', rfl, hU', ho, hr', hf', hb⟩
        have hka := hb.onAlloc (.cells #[.int .i64 65536, .slice a' (freeR M').length c'] 58)
        have x0 : (w3.alloc (.cells #[.int .i64 65536, .slice a' (freeR M').length c'] 58)).cell? ⟨w3.heap.size, 0, none⟩ = some (.int .i64 65536) := by simp
        have x1 : (w3.alloc (.cells #[.int .i64 65536, .slice a' (freeR M').length c'] 58)).cell? ⟨w3.heap.size, 1, none⟩ = some (.slice a' (freeR M').length c') := by simp
        have HK1 := Lib.hid (hf'.away HV.out.aX HV.out.lt)
        have HX := Lib.hid (hr'.keep ((Below.refl w3.heap.size w3).onAlloc (.cells #[.int .i64 65536, .slice a' (freeR M').length c'] 58)))
        have HO := Lib.hid ((ho.rd' (by simp)).keep ((Below.refl w3.heap.size w3).onAlloc (.cells #[.int .i64 65536, .slice a' (freeR M').length c'] 58)))
        have HU' := Lib.hid hU'
        have hYX : ¬ w3.heap.size = X := by have := HV.out.lt; have := hb.size; omega
        have HV := Lib.hid (HV.out.later hka)
        clear hb ho hr' hf' hka hU' t0 t1 g0 g1
        have t0 := HV.out.t0
        have t1 := HV.out.t1
        have g0 := HV.out.g0
        have g1 := HV.out.g1
        go_wp2_with fail
        generalize w3.alloc (.cells #[.int .i64 65536, .slice a' (freeR M').length c'] 58) = W3 at *
        generalize w3.heap.size = Y at *
        refine (run35_any e (1 + x) _).mono ?_
        rintro en w4 ⟨g, _, rfl, ho, hb⟩
        have HV := Lib.hid (HV.out.later hb)
        have HX := Lib.hid (HX.out.keep hb)
        have HO := Lib.hid (HO.out.keep hb)
        have HP := Lib.hid (ho.rd' (by simp))
        replace x0 := hb.keep x0
        replace x1 := hb.keep x1
        clear hb ho t0 t1 g0 g1
        go_wp2_with fail
        refine (same_is [⟨0, 1 + x, e⟩] [⟨0, 1 + x, e⟩] la (some ⟨g, 0, none⟩) lc 1 true _ (sameB_refl _) HO.out HP.out).mono ?_
        rintro en w5 ⟨rfl, hb⟩
        have HV := Lib.hid (HV.out.later hb)
        have HX := Lib.hid (HX.out.keep hb)
        replace x0 := hb.keep x0
        replace x1 := hb.keep x1
        clear hb
        have t0 := HV.out.t0
        have t1 := HV.out.t1
        have g0 := HV.out.g0
        have g1 := HV.out.g1
        have HN := Lib.hid (HV.out.put HX.out HK1.out (c' := c'))
        go_wp2_with fail
        go_roundw
        case rel => exact ⟨k + 1, e + (1 + x), M', a', c', by omega, by go_num, (by congr 1 <;> omega), HU'.out, HN.out⟩
        case measure => simp [intOf]; omega
      · go_wp2_with fail
        refine (atake_over M 65536 e (1 + x) 65536 (1 + x) e am cm _ (by omega) (by omega) rfl HU.out (Nat.le_refl _) HV.out.r (by omega)).mono ?_
        rintro en w3 ⟨rfl, hb⟩
        have hB := (HV.out.B.on hb).onAlloc (.cells #[.int .i64 0, .slice none 0 0] 58)
        go_wp2_with fail
        go_ret
        exact ⟨rfl, hB⟩
    · have HLn := Lib.hid (upto_len (Nat.le_refl _) HU.out)
      have HMx := Lib.hid (upto_max (Nat.le_refl _) HU.out)
      go_wp2_with fail
      refine (afree_is 65536 (freeR M) (65536 - e) am cm _ (by rw [HLn.out]; omega) HV.out.r (freeR_canon M)).mono ?_
      rintro en w3 ⟨rfl, hb⟩
      have HV := Lib.hid (HV.out.later hb)
      clear hb t0 t1 g0 g1
      have t0 := HV.out.t0
      have t1 := HV.out.t1
      have g0 := HV.out.g0
      have g1 := HV.out.g1
      go_wp2_with fail
      have hcon := alargest_any 65536 (freeR M) am cm _ HV.out.r (freeR_canon M)
      rw [HMx.out] at hcon
      refine hcon.mono ?_
      clear hcon
      rintro en w4 ⟨rfl, hb⟩
      have hB := HV.out.B.on hb
      go_wp2_with fail
      go_ret
      exact ⟨rfl, hB⟩
end Go.Proofs.Ytolhajkbamhdgaa
