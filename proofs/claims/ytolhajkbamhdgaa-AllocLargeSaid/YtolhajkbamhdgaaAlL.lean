/-
  Chapter 35: scripts opened; the statements' helpers few, same.
  Conditions: as each theorem says.
-/
import Derived.Test.YtolhajkbamhdgaaAlH
import Derived.Test.YtolhajkbamhdgaaAlJ
import Derived.Test.YtolhajkbamhdgaaTgW
namespace Go.Proofs.Ytolhajkbamhdgaa
set_option linter.unusedSimpArgs false
set_option linter.unusedVariables false
open Go.ChangeShapes Go.WideShapes Go.ChangeAt Go.RowKit Go.Deep

/-! ### Scripts -/
structure Step35 where
  k : Int
  n : Int
  h : Int
  l : List E
structure StepAt35 (w : World) (b o j : Nat) (x : Step35) : Prop where
  k : w.cell? ⟨b, o + j * 4, none⟩ = some (.int .u8 x.k)
  n : w.cell? ⟨b, o + j * 4 + 1, none⟩ = some (.int .u8 x.n)
  h : w.cell? ⟨b, o + j * 4 + 2, none⟩ = some (.int .u8 x.h)
  bk : 0 ≤ x.k ∧ x.k ≤ 255
  bn : 0 ≤ x.n ∧ x.n ≤ 255
  bh : 0 ≤ x.h ∧ x.h ≤ 255
  l : ∃ al cl, w.cell? ⟨b, o + j * 4 + 3, none⟩ = some (.slice al x.l.length cl) ∧ x.l.length ≤ 9223372036854775807 ∧ (x.l.length ≤ 46912496118443 → Rd w al x.l) ∧ wfL x.l
/-- The slice 'a, length' reads as a script. -/
def RdS35 (w : World) (a : Option Addr) (S : List Step35) : Prop :=
  S.length ≤ 9223372036854775807 ∧ (S = [] ∨ ∃ b o, a = some ⟨b, o, none⟩ ∧ ∀ k x, S[k]? = some x → StepAt35 w b o k x)
theorem StepAt35.keep {w w' : World} (h : Below w.heap.size w w') {b o k : Nat} {x : Step35} (ha : StepAt35 w b o k x) : StepAt35 w' b o k x :=
  ⟨h.keep ha.k, h.keep ha.n, h.keep ha.h, ha.bk, ha.bn, ha.bh, by obtain ⟨al, cl, h1, h2, h3, h4⟩ := ha.l; exact ⟨al, cl, h.keep h1, h2, fun hb => (h3 hb).keep h, h4⟩⟩
theorem RdS35.keep {w w' : World} (h : Below w.heap.size w w') {a : Option Addr} {S : List Step35} (hr : RdS35 w a S) : RdS35 w' a S :=
  ⟨hr.1, hr.2.imp id fun ⟨b, o, ha, hat⟩ => ⟨b, o, ha, fun k x hk => (hat k x hk).keep h⟩⟩
theorem RdS35.at {w : World} {a : Option Addr} {S : List Step35} (hr : RdS35 w a S) (h : 0 < S.length) : ∃ b o, a = some ⟨b, o, none⟩ ∧ ∀ k x, S[k]? = some x → StepAt35 w b o k x :=
  hr.2.resolve_left (by intro e; rw [e] at h; simp at h)
theorem list_of35 {α : Type} {P : Nat → α → Prop} (n : Nat) (h : ∀ i, i < n → ∃ x, P i x) : ∃ l : List α, l.length = n ∧ ∀ i x, l[i]? = some x → P i x := by
  induction n with
  | zero => exact ⟨[], rfl, fun i x hx => by simp at hx⟩
  | succ n ih =>
    obtain ⟨l, hl, hp⟩ := ih fun i hi => h i (by omega)
    obtain ⟨y, hy⟩ := h n (by omega)
    refine ⟨l ++ [y], by simp [hl], fun i x hx => ?_⟩
    by_cases hi : i < n
    · rw [List.getElem?_append_left (by omega)] at hx
      exact hp i x hx
    · have hlt := (List.getElem?_eq_some_iff.1 hx).1
      simp [hl] at hlt
      obtain rfl : i = n := by omega
      rw [List.getElem?_append_right (by omega), hl] at hx
      simp at hx
      rw [← hx]
      exact hy
section
variable {H : Type} {enc : TypeId × Value → H} {w : World}
set_option maxRecDepth 100000 in
theorem open_steps35 {a : Option Addr} {len cap fuel : Nat} {x : DataW H × List MemPlace} (h : DataW.trod enc Try.prog w 0 (fun _ => true) true fuel 64 [.slice a len cap] = some x) :
    ∃ S : List Step35, S.length = len ∧ (len ≤ 9223372036854775807 ∧ len ≤ cap ∧ cap ≤ 9223372036854775807) ∧ RdS35 w a S := by
  rcases open_slice_fields Try.underlying64 Try.underlying80 (by kernel_rfl) (by kernel_rfl) h with ⟨hcs, _⟩ | ⟨ad, len', cap', m, D, Pl, hcs, hb, hl, hm, hmm, hx, hi⟩
  · simp at hcs
    obtain ⟨rfl, rfl, rfl⟩ := hcs
    exact ⟨[], rfl, ⟨by omega, by omega, by omega⟩, ⟨by simp, .inl rfl⟩⟩
  · simp at hcs
    obtain ⟨rfl, rfl, rfl⟩ := hcs
    simp only [if_true] at hmm
    subst hmm
    obtain ⟨S, hlen, hp⟩ := list_of35 (P := fun i (x : Step35) => w.cell? (ad.add (i * 4 + 0)) = some (.int .u8 x.k) ∧ w.cell? (ad.add (i * 4 + 1)) = some (.int .u8 x.n) ∧ w.cell? (ad.add (i * 4 + 2)) = some (.int .u8 x.h) ∧ (0 ≤ x.k ∧ x.k ≤ 255) ∧ (0 ≤ x.n ∧ x.n ≤ 255) ∧ (0 ≤ x.h ∧ x.h ≤ 255) ∧ ∃ al cl, w.cell? (ad.add (i * 4 + 3)) = some (.slice al x.l.length cl) ∧ x.l.length ≤ 9223372036854775807 ∧ (x.l.length ≤ 46912496118443 → Rd w al x.l) ∧ wfL x.l) len (fun i hlt => by
      obtain ⟨ys, n, _, _, hys, hf⟩ := hi i (by omega)
      obtain ⟨v0, y0, k0, _, t0⟩ := hf 0 _ rfl
      obtain ⟨v1, y1, k1, _, t1⟩ := hf 1 _ rfl
      obtain ⟨v2, y2, k2, _, t2⟩ := hf 2 _ rfl
      obtain ⟨v3, y3, k3, _, t3⟩ := hf 3 _ rfl
      obtain ⟨n0, e0, _, w0⟩ := DataW.trod_int Try.underlying5 t0
      obtain ⟨n1, e1, _, w1⟩ := DataW.trod_int Try.underlying5 t1
      obtain ⟨n2, e2, _, w2⟩ := DataW.trod_int Try.underlying5 t2
      simp at e0 e1 e2
      subst e0
      subst e1
      subst e2
      obtain ⟨al, ln, cl, rfl⟩ : ∃ al ln cl, v3 = .slice al ln cl := by
        rcases open_slice Try.underlying32 t3 with ⟨hcs, _⟩ | ⟨a1, l1, c1, _, _, _, _, hcs, _⟩
        · simp at hcs; exact ⟨_, _, _, hcs⟩
        · simp at hcs; exact ⟨_, _, _, hcs⟩
      obtain ⟨l, rfl, hl1, hl2, hl3⟩ := open_extents t3
      exact ⟨⟨n0, n1, n2, l⟩, k0, k1, k2, bounds_u8 w0, bounds_u8 w1, bounds_u8 w2, al, cl, k3, hl1.1, hl2, hl3⟩)
    refine ⟨S, hlen, by unfold maxLen at hm; exact ⟨by omega, hl, by omega⟩, ⟨by unfold maxLen at hm; omega, ?_⟩⟩
    by_cases h0 : S = []
    · exact .inl h0
    · refine .inr ?_
      obtain ⟨b, off, spot⟩ := ad
      have h00 : 0 < S.length := List.length_pos_iff.2 h0
      obtain ⟨z0, _⟩ := hp 0 _ (List.getElem?_eq_getElem h00)
      have hspot : spot = none := by simpa [Addr.add] using World.cell?_spot z0
      subst hspot
      refine ⟨b, off, rfl, fun k x hk => ?_⟩
      obtain ⟨c0, c1, c2, b0, b1, b2, al, cl, c3, c4⟩ := hp k x hk
      have hadd : ∀ j, (⟨b, off, none⟩ : Addr).add j = ⟨b, off + j, none⟩ := fun j => by unfold Addr.add; split <;> simp_all
      rw [hadd] at c0 c1 c2 c3
      exact ⟨by simpa using c0, by rw [Nat.add_assoc]; exact c1, by rw [Nat.add_assoc]; exact c2, b0, b1, b2, al, cl, by rw [Nat.add_assoc]; exact c3, c4⟩
end

def fewB35 (S : List Step35) : Bool := S.all fun x => decide (x.l.length ≤ 8)
theorem fewB35_take (S : List Step35) (k : Nat) (h : k < S.length) : fewB35 (S.take (k + 1)) = (fewB35 (S.take k) && decide (S[k].l.length ≤ 8)) := by
  rw [List.take_succ_eq_append_getElem h]; simp only [fewB35, List.all_append, List.all_cons, List.all_nil, Bool.and_true]
theorem fewB35_bad (S : List Step35) (k : Nat) (h : k < S.length) (hx : 8 < S[k].l.length) : fewB35 S = false := by
  cases hp : fewB35 S
  · rfl
  · have := of_decide_eq_true (List.all_eq_true.1 hp _ (List.getElem_mem h))
    omega
theorem fewB35_get {S : List Step35} (h : fewB35 S = true) {k : Nat} (hk : k < S.length) : S[k].l.length ≤ 8 := of_decide_eq_true (List.all_eq_true.1 h _ (List.getElem_mem hk))
def FewPost35 (S : List Step35) (w : World) (e : Ending) (w' : World) : Prop := e = .returned (.bool (fewB35 S && decide (S.length ≤ 25))) ∧ Below w.heap.size w w'
set_option maxRecDepth 100000 in
set_option maxHeartbeats 1000000 in
theorem few35_any (S : List Step35) (a : Option Addr) (c : Nat) (w : World) (hr : RdS35 w a S) :
    Calls Try.prog 42 #[.slice a S.length c] w (FewPost35 S w) := by
  have hlen := hr.1
  go_enter Try.func42, Try.ntmps42
  go_wp2_with fail
  go_loopw [3] (fun i wr => ∃ k : Nat, k ≤ S.length ∧ i = .int .i64 k ∧ fewB35 (S.take k) = true ∧ Below w.heap.size w wr) (fun i _ => S.length - (intOf i).toNat)
  case atStart => exact ⟨0, Nat.zero_le _, rfl, rfl, Below.refl _ _⟩
  case round =>
    obtain ⟨k, hk, rfl, hp, hB⟩ := hrel
    by_cases hlt : k < S.length
    · obtain ⟨b, o, rfl, hat⟩ := (hr.keep hB).at (by omega)
      obtain ⟨al, cl, h2, h3, _⟩ := (hat k _ (List.getElem?_eq_getElem hlt)).l
      have HV := Lib.hid (fewB35_take S k hlt)
      have HBad := Lib.hid (fewB35_bad S k hlt)
      have HP := Lib.hid hp
      have hk0 : (0 : Int) ≤ k := by omega
      have hk1 : (k : Int) < S.length := by omega
      generalize S[k] = x at *
      obtain ⟨xk, xn, xh, xl⟩ := x
      simp only at h2 h3 HV HBad
      clear hat hr hp
      by_cases d1 : 8 < xl.length
      · have HF := Lib.hid (HBad.out d1)
        go_wp2
        go_ret
        exact ⟨ret_bool (by rw [HF.out]; simp), hB⟩
      · have HF : Hid (decide (xl.length ≤ 8) = true) := Lib.hid (by simp; omega)
        go_wp2
        go_roundw
        case rel => exact ⟨k + 1, by omega, by go_num, by rw [HV.out, HP.out, HF.out]; rfl, hB⟩
        case measure => simp [intOf]; omega
    · have HP : Hid (fewB35 S = true) := by
        rw [List.take_of_length_le (by omega)] at hp
        exact Lib.hid hp
      clear hp
      by_cases h20 : S.length ≤ 25
      all_goals
        go_wp2
        go_ret
        exact ⟨ret_bool (by rw [HP.out]; simp [h20]; try omega), hB⟩
theorem few35_is (S : List Step35) (a : Option Addr) (c : Nat) (w : World) (hr : RdS35 w a S) (r : Bool) (h : (fewB35 S && decide (S.length ≤ 25)) = r) :
    Calls Try.prog 42 #[.slice a S.length c] w fun e w' => e = .returned (.bool r) ∧ Below w.heap.size w w' := by
  subst h
  exact few35_any S a c w hr

/-! ### same -/
theorem isL_free (M : List Bool) (hN : M.length ≤ 65536) (s : Nat) : isL (freeR M) s = freeF M s := by
  rw [← hasB_free M hN, Bool.eq_iff_iff, isL_iff, hasB_iff]
  constructor
  · rintro ⟨x, hx, h1, h2⟩; exact ⟨x, hx, (freeR_canon M).1 x hx |>.2, h1, h2⟩
  · rintro ⟨x, hx, _, h1, h2⟩; exact ⟨x, hx, h1, h2⟩
theorem isL_neg (M : List Bool) : isL (freeR M) (-1) = false := by
  rw [Bool.eq_false_iff]
  intro h
  obtain ⟨x, hx, h1, h2⟩ := (isL_iff _ _).1 h
  have := (okB_iff x).1 ((freeR_canon M).1 x hx).2
  omega
theorem isL_end (M : List Bool) (hN : M.length ≤ 65536) : isL (freeR M) M.length = false := by
  rw [isL_free M hN, freeF_far M _ (Nat.le_refl _)]
theorem is_is (N : Int) (R : List E) (s : Int) (r : Bool) (a : Option Addr) (c : Nat) (w : World) (hs' : isL R s = r) (hr : Rd w a R) (hC : Canon R) (hs : -1 ≤ s ∧ s ≤ 65536) :
    Calls Try.prog 41 #[.agg #[.int .i64 N, .slice a R.length c], .int .i64 s] w fun e w' => e = .returned (.bool r) ∧ Below w.heap.size w w' := by
  subst hs'
  exact is_any N R s a c w hr hC hs
theorem qfree_is (M : List Bool) (z : Int) (a : Option Addr) (c : Nat) (w : World) (hz : (area (freeF M) M.length : Int) = z) (hr : RdM w a M) (hN : M.length ≤ 65536) :
    Calls Try.prog 45 #[.slice a M.length c] w fun e w' => e = .returned (.int .i64 z) ∧ Below w.heap.size w w' := by
  subst hz
  exact qfree_any M a c w hr hN
set_option maxRecDepth 100000 in
set_option maxHeartbeats 4000000 in
theorem same35_any (M : List Bool) (a a2 : Option Addr) (c c2 : Nat) (w : World) (hN : M.length ≤ 65536) (hrC : Rd w a (freeR M)) (hrD : RdM w a2 M) :
    Calls Try.prog 46 #[.agg #[.int .i64 M.length, .slice a (freeR M).length c], .slice a2 M.length c2] w fun e w' => e = .returned (.bool true) ∧ Below w.heap.size w w' := by
  have hk := (Below.refl w.heap.size w).onAlloc (.cells #[.int .i64 M.length, .slice a (freeR M).length c] 58)
  have HRC := Lib.hid (hrC.keep hk)
  have HRD := Lib.hid (hrD.keep hk)
  have HB := Lib.hid hk
  have HC := Lib.hid (freeR_canon M)
  have hS := canon_short HC.out
  have HI := Lib.hid (isL_free M hN)
  have HI1 := Lib.hid (isL_neg M)
  have HI2 := Lib.hid (isL_end M hN)
  have HZ := Lib.hid (lenL_free M hN)
  have hc0 : (w.alloc (.cells #[.int .i64 M.length, .slice a (freeR M).length c] 58)).cell? ⟨w.heap.size, 0, none⟩ = some (.int .i64 M.length) := by simp
  have hc1 : (w.alloc (.cells #[.int .i64 M.length, .slice a (freeR M).length c] 58)).cell? ⟨w.heap.size, 1, none⟩ = some (.slice a (freeR M).length c) := by simp
  generalize hz : (area (freeF M) M.length : Int) = z at *
  have HZZ := Lib.hid hz
  generalize hmx : maxL (freeR M) = mx at *
  have HMX := Lib.hid hmx
  generalize hRR : freeR M = R at *
  have HRR := Lib.hid hRR
  clear hrC hrD hk hz hmx hRR
  go_enter Try.func46, Try.ntmps46
  go_wp2_with fail
  refine (aslots_any M.length a R.length c _).mono ?_
  rintro e w' ⟨rfl, hb⟩
  have HRC := Lib.hid (HRC.out.keep hb)
  have HRD := Lib.hid (HRD.out.keep hb)
  replace hc0 := hb.keep hc0
  replace hc1 := hb.keep hc1
  have HB := Lib.hid (HB.out.on hb)
  clear hb
  go_wp2_with fail
  refine (afree_is M.length R z a c _ HZ.out HRC.out HC.out).mono ?_
  rintro e w' ⟨rfl, hb⟩
  have HRC := Lib.hid (HRC.out.keep hb)
  have HRD := Lib.hid (HRD.out.keep hb)
  replace hc0 := hb.keep hc0
  replace hc1 := hb.keep hc1
  have HB := Lib.hid (HB.out.on hb)
  clear hb
  go_wp2_with fail
  refine (qfree_is M z a2 c2 _ HZZ.out HRD.out hN).mono ?_
  rintro e w' ⟨rfl, hb⟩
  have HRC := Lib.hid (HRC.out.keep hb)
  have HRD := Lib.hid (HRD.out.keep hb)
  replace hc0 := hb.keep hc0
  replace hc1 := hb.keep hc1
  have HB := Lib.hid (HB.out.on hb)
  clear hb
  go_wp2_with fail
  have hcon := alargest_any M.length R a c _ HRC.out HC.out
  rw [HMX.out] at hcon
  go_wp2_with fail
  refine (hcon).mono ?_
  rintro e w' ⟨rfl, hb⟩
  have HRC := Lib.hid (HRC.out.keep hb)
  have HRD := Lib.hid (HRD.out.keep hb)
  replace hc0 := hb.keep hc0
  replace hc1 := hb.keep hc1
  have HB := Lib.hid (HB.out.on hb)
  clear hb
  clear hcon
  have hcon := qlargest_any M a2 c2 _ HRD.out hN
  rw [HRR.out, HMX.out] at hcon
  go_wp2_with fail
  refine (hcon).mono ?_
  rintro e w' ⟨rfl, hb⟩
  have HRC := Lib.hid (HRC.out.keep hb)
  have HRD := Lib.hid (HRD.out.keep hb)
  replace hc0 := hb.keep hc0
  replace hc1 := hb.keep hc1
  have HB := Lib.hid (HB.out.on hb)
  clear hb
  clear hcon
  go_wp2_with fail
  refine (aruns_any M.length R a c _ HRC.out (by omega)).mono ?_
  rintro e w' ⟨z1, rfl, ho1, hb⟩
  obtain ⟨za, zc, rfl, hz1⟩ := ho1.rd (by omega)
  have HRC := Lib.hid (HRC.out.keep hb)
  have HRD := Lib.hid (HRD.out.keep hb)
  replace hc0 := hb.keep hc0
  replace hc1 := hb.keep hc1
  have HB := Lib.hid (HB.out.on hb)
  clear hb ho1
  go_wp2_with fail
  have hcon := qruns_any M a2 c2 _ HRD.out hN
  rw [HRR.out] at hcon
  refine hcon.mono ?_
  rintro e w' ⟨z2, rfl, ho2, hb⟩
  obtain ⟨zb, zd, rfl, hz2⟩ := ho2.rd (by omega)
  have HRC := Lib.hid (HRC.out.keep hb)
  have HRD := Lib.hid (HRD.out.keep hb)
  replace hc0 := hb.keep hc0
  replace hc1 := hb.keep hc1
  replace hz1 := hz1.keep hb
  have HB := Lib.hid (HB.out.on hb)
  clear hb ho2 hcon
  go_wp2_with fail
  refine (same_is R R _ _ _ _ true _ (sameB_refl _) hz1 hz2).mono ?_
  rintro e w' ⟨rfl, hb⟩
  have HRC := Lib.hid (HRC.out.keep hb)
  have HRD := Lib.hid (HRD.out.keep hb)
  replace hc0 := hb.keep hc0
  replace hc1 := hb.keep hc1
  have HB := Lib.hid (HB.out.on hb)
  clear hb
  clear hz1 hz2
  go_wp2_with fail
  refine (is_is M.length R (-1) false a c _ HI1.out HRC.out HC.out (by omega)).mono ?_
  rintro e w' ⟨rfl, hb⟩
  have HRC := Lib.hid (HRC.out.keep hb)
  have HRD := Lib.hid (HRD.out.keep hb)
  replace hc0 := hb.keep hc0
  replace hc1 := hb.keep hc1
  have HB := Lib.hid (HB.out.on hb)
  clear hb
  go_wp2_with fail
  refine (is_is M.length R M.length false a c _ HI2.out HRC.out HC.out (by omega)).mono ?_
  rintro e w9 ⟨rfl, hb⟩
  have HRC := Lib.hid (HRC.out.keep hb)
  have HRD := Lib.hid (HRD.out.keep hb)
  replace hc0 := hb.keep hc0
  replace hc1 := hb.keep hc1
  have HB := Lib.hid (HB.out.on hb)
  clear hb
  go_wp2_with fail
  go_loopw [5] (fun t wr => ∃ k : Nat, k ≤ M.length ∧ t = .int .i64 k ∧ Below w9.heap.size w9 wr) (fun t _ => M.length - (intOf t).toNat)
  case atStart => exact ⟨0, by omega, rfl, Below.refl _ _⟩
  case round =>
    obtain ⟨k, hk, rfl, hB⟩ := hrel
    by_cases hlt : k < M.length
    · have hq0 := hB.keep hc0
      have hq1 := hB.keep hc1
      have HC4 := Lib.hid (HRC.out.keep hB)
      obtain ⟨b, o, rfl, hat⟩ := (HRD.out.keep hB).at (by omega)
      have h1 := hat k _ (List.getElem?_eq_getElem hlt)
      have HX := Lib.hid (HI.out k)
      have HT := Lib.hid (freeF_get M k hlt)
      generalize M[k] = x at *
      clear hat hc0 hc1
      cases x
      · have HX2 := Lib.hid (HX.out.trans HT.out)
        go_wp2_with fail
        refine wp_region_next (by kernel_rfl) (by kernel_rfl) ?_
        repeat (go_big_quiet_step ((go_at_call 41; exact Calls.next_of (is_is M.length R k true a c _ HX2.out (HC4.out.keep (World.below_next _ _)) HC.out (by omega)))))
        refine wpQuiet_nil ?_
        intro _ hw'
        obtain ⟨nq, hw''⟩ := hw'
        subst hw''
        go_wp2_with fail
        go_roundw
        case rel => exact ⟨k + 1, by omega, by go_num, hB.onNext _⟩
        case measure => simp [intOf]; omega
      · have HX2 := Lib.hid (HX.out.trans HT.out)
        go_wp2_with fail
        refine wp_region_next (by kernel_rfl) (by kernel_rfl) ?_
        repeat (go_big_quiet_step ((go_at_call 41; exact Calls.next_of (is_is M.length R k false a c _ HX2.out (HC4.out.keep (World.below_next _ _)) HC.out (by omega)))))
        refine wpQuiet_nil ?_
        intro _ hw'
        obtain ⟨nq, hw''⟩ := hw'
        subst hw''
        go_wp2_with fail
        go_roundw
        case rel => exact ⟨k + 1, by omega, by go_num, hB.onNext _⟩
        case measure => simp [intOf]; omega
    · have hB9 := HB.out.on hB
      go_wp2
      go_ret
      exact ⟨rfl, hB9⟩
end Go.Proofs.Ytolhajkbamhdgaa
