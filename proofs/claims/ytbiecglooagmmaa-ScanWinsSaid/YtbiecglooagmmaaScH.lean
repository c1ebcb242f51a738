/-
  Lists of sectors in memory; the reference's entry, mentioned, Newest.
  Conditions: as each theorem says.
-/
import Derived.Test.YtbiecglooagmmaaScF
import Derived.Test.YtbiecglooagmmaaScQ
import Derived.Deep.RegionLaw
namespace Go.Proofs.Ytbiecglooagmmaa
set_option linter.unusedSimpArgs false
set_option linter.unusedVariables false
set_option maxRecDepth 100000
open Go.RowKit

structure SV where
  a : Option Addr
  c : Nat
  l : List UInt8
abbrev SV.v (s : SV) : Value := .slice s.a s.l.length s.c
def SV.sec (s : SV) : Sec := ⟨s.a.isNone, s.l⟩
def SV.fit (w : World) (s : SV) : Prop := RdY w s.a s.l ∧ s.l.length ≤ s.c
theorem SV.fit.keep {w w' : World} {s : SV} (h : s.fit w) (hb : Below w.heap.size w w') : s.fit w' := ⟨h.1.keep hb, h.2⟩
/-- The slice 'a, length' reads as these sectors. -/
def RdZ (w : World) (a : Option Addr) (S : List SV) : Prop := (∀ s ∈ S, s.fit w) ∧ S.length ≤ 1000000000 ∧ (S = [] ∨ ∃ b o, a = some ⟨b, o, none⟩ ∧ ∀ k s, S[k]? = some s → w.cell? ⟨b, o + k, none⟩ = some s.v)
theorem RdZ.keep {w w' : World} {a : Option Addr} {S : List SV} (h : RdZ w a S) (hb : Below w.heap.size w w') : RdZ w' a S :=
  ⟨fun s hs => (h.1 s hs).keep hb, h.2.1, h.2.2.imp id fun ⟨b, o, e, hat⟩ => ⟨b, o, e, fun k s hk => hb.keep (hat k s hk)⟩⟩
theorem RdZ.at {w : World} {a : Option Addr} {S : List SV} (h : RdZ w a S) (h0 : 0 < S.length) : ∃ b o, a = some ⟨b, o, none⟩ ∧ ∀ k s, S[k]? = some s → w.cell? ⟨b, o + k, none⟩ = some s.v :=
  h.2.2.resolve_left (by intro e; rw [e] at h0; simp at h0)
abbrev secs (S : List SV) : List (List UInt8) := S.map (·.l)
theorem secs_at {S : List SV} {k : Nat} (h : k < S.length) : (secs S).getD k [] = S[k].l := by
  rw [List.getD_eq_getElem?_getD, List.getElem?_map, List.getElem?_eq_getElem h]
  rfl
theorem cand_short {bl : Int} {l : List UInt8} (h : l.length ≠ 37) : cand bl l = none := by
  cases hq : cand bl l with
  | none => rfl
  | some p => exact absurd (cand_some (e := p.1) (t := p.2) hq).1 h
theorem secs_past {S : List SV} {k : Nat} (h : S.length ≤ k) : (secs S).getD k [] = [] := by
  rw [List.getD_eq_getElem?_getD, List.getElem?_eq_none (by simpa using h)]
  rfl
theorem best_past {bl : Int} {S : List SV} {b : Int} {n : Nat} (h : S.length ≤ n) : best bl (secs S) b n = best bl (secs S) b S.length := by
  induction n with
  | zero => rw [show S.length = 0 by omega]
  | succ n ih =>
    by_cases e : S.length = n + 1
    · rw [e]
    · rw [best, secs_past (by omega), cand_short (by simp)]
      exact ih (by omega)
theorem best_min {bl : Int} {S : List SV} {b : Int} {n : Nat} : best bl (secs S) b n = best bl (secs S) b (min n S.length) := by
  by_cases h : S.length ≤ n
  · rw [Nat.min_eq_right h, best_past h]
  · rw [Nat.min_eq_left (by omega)]
def candB (bl : Int) (l : List UInt8) : Bool := decide ((dec l).2.2 = 0) && decide ((dec l).1.block < bl)
theorem cand_yes {bl : Int} {l : List UInt8} (h : candB bl l = true) : cand bl l = some ((dec l).1, (dec l).2.1) := by
  unfold candB at h
  simp only [Bool.and_eq_true, decide_eq_true_eq] at h
  unfold cand
  generalize dec l = p at *
  obtain ⟨E, t, x⟩ := p
  simp only at h ⊢
  rw [if_pos h]
theorem cand_no {bl : Int} {l : List UInt8} (h : candB bl l = false) : cand bl l = none := by
  unfold candB at h
  simp only [Bool.and_eq_false_iff, decide_eq_false_iff_not] at h
  unfold cand
  generalize dec l = p at *
  obtain ⟨E, t, x⟩ := p
  simp only at h ⊢
  rw [if_neg (by omega)]
theorem dec_u64 (l : List UInt8) : 0 ≤ (dec l).2.1 ∧ (dec l).2.1 ≤ 18446744073709551615 ∧ 0 ≤ (dec l).1.ver ∧ (dec l).1.ver ≤ 18446744073709551615 := by
  have h8 : ∀ m : List UInt8, m.length ≤ 8 → getL m < 18446744073709551616 := fun m hm => by
    have h1 := getL_lt m
    have h2 : (256 : Nat) ^ m.length ≤ 256 ^ 8 := Nat.pow_le_pow_right (by omega) hm
    omega
  have h1 := h8 ((l.drop 21).take 8) (by rw [List.length_take]; omega)
  have h2 := h8 ((l.drop 5).take 8) (by rw [List.length_take]; omega)
  unfold dec
  split
  · split
    · split
      · refine ⟨by simp only; omega, by simp only; omega, ?_, ?_⟩ <;> (unfold decE; simp only; omega)
      · exact ⟨by simp, by simp, by simp [zeroE], by simp [zeroE]⟩
    · exact ⟨by simp, by simp, by simp [zeroE], by simp [zeroE]⟩
  · exact ⟨by simp, by simp, by simp [zeroE], by simp [zeroE]⟩
theorem dec_err (l : List UInt8) : (dec l).2.2 = 0 ∨ (dec l).2.2 = 5 ∨ (dec l).2.2 = 6 := by
  unfold dec
  split
  · split
    · split
      · exact .inl rfl
      · exact .inr (.inl rfl)
    · exact .inr (.inr rfl)
  · exact .inr (.inl rfl)
theorem setL_other {T R : Nat} (h : T ≠ R) (vs : List Value) (j : Nat) : ∀ (W : World) (k : Nat), (setL W R k vs).cell? ⟨T, j, none⟩ = W.cell? ⟨T, j, none⟩ := by
  induction vs with
  | nil => intro W k; rfl
  | cons v r ih => intro W k; rw [setL, ih, World.cell?_setCell_other _ _ _ _ (fun e => h (Addr.mk.inj e).1.symm)]
theorem CE.other {W : World} {T R : Nat} {u0 u1 u2 u3 u4 u5 u6 u7 u8 u9 u10 : Value} (h : CE W T u0 u1 u2 u3 u4 u5 u6 u7 u8 u9 u10) (hT : T ≠ R) (v0 v1 v2 v3 v4 v5 v6 v7 v8 v9 v10 : Value) : CE (setE W R v0 v1 v2 v3 v4 v5 v6 v7 v8 v9 v10) T u0 u1 u2 u3 u4 u5 u6 u7 u8 u9 u10 := by
  have k := fun j => setL_other hT [v0, v1, v2, v3, v4, v5, v6, v7, v8, v9, v10] j W 0
  exact ⟨(k 0).trans h.c0, (k 1).trans h.c1, (k 2).trans h.c2, (k 3).trans h.c3, (k 4).trans h.c4, (k 5).trans h.c5, (k 6).trans h.c6, (k 7).trans h.c7, (k 8).trans h.c8, (k 9).trans h.c9, (k 10).trans h.c10, fun i => (setL_frozen R [v0, v1, v2, v3, v4, v5, v6, v7, v8, v9, v10] _ W 0).trans (h.f i)⟩
def EntP (bl : Int) (l : List UInt8) (w : World) (e : Ending) (w' : World) : Prop := e = .returned (.tuple #[(dec l).1.v, .int .u64 (dec l).2.1, .bool (candB bl l)]) ∧ Below w.heap.size w w'
set_option maxHeartbeats 4000000 in
theorem rentry_any (bl : Int) (l : List UInt8) (a : Option Addr) (c : Nat) (w : World) (hr : RdY w a l) (hc : l.length ≤ c) :
    Calls Try.prog 26 #[.slice a l.length c, .int .i64 bl] w (EntP bl l w) := by
  have HB0 := Lib.hid ((Below.refl w.heap.size w).onAlloc (.cells cz11 41))
  have HC0 := Lib.hid (CE.new w 41 (.int .i64 0) (.int .i64 0) (.int .u64 0) (.int .u8 0) (.int .u8 0) (.int .u8 0) (.int .u8 0) (.int .u8 0) (.int .u8 0) (.int .u8 0) (.int .u8 0))
  have HD := Lib.hid (fun W h => rdecode_any l a c W h hc)
  have HR := Lib.hid hr
  unfold EntP
  unfold DecP at HD
  unfold candB
  have HXE := Lib.hid (dec_err l)
  obtain ⟨q, hq⟩ : ∃ q, dec l = q := ⟨_, rfl⟩
  rw [hq] at HD HXE ⊢
  obtain ⟨⟨ki, bk, vr, d0, d1, d2, d3, d4, d5, d6, d7⟩, t, x⟩ := q
  unfold Ent.v at HD ⊢
  simp only [byV] at HD ⊢
  clear hq hr hc
  obtain ⟨cb, hcb⟩ : ∃ cb, (decide (x = 0) && decide (bk < bl)) = cb := ⟨_, rfl⟩
  rw [hcb]
  have HCB := Lib.hid hcb
  clear hcb
  have hsd : ∀ (w : World) (n : Nat) (a : Addr) (v : Value), (w.drewN n).setCell a v = (w.setCell a v).drewN n := fun _ _ _ _ => rfl
  go_enter Try.func26, Try.ntmps26
  go_wp2_with fail
  refine (HD.out _ (HR.out.keep HB0.out)).mono ?_
  rintro e w1 ⟨rfl, hb⟩
  have HC1 := Lib.hid (HC0.out.keep hb)
  have HW1 := Lib.hid (HB0.out.on hb)
  clear hb HC0 HB0 HD HR
  have HTL : Hid (w.heap.size < w1.heap.size) := Lib.hid (World.block_lt_of_cell? w1 ⟨w.heap.size, 0, none⟩ HC1.out.c0)
  have hka := (Below.refl w1.heap.size w1).onAlloc (.cells #[.int .i64 ki, .int .i64 bk, .int .u64 vr, .int .u8 d0.toNat, .int .u8 d1.toNat, .int .u8 d2.toNat, .int .u8 d3.toNat, .int .u8 d4.toNat, .int .u8 d5.toNat, .int .u8 d6.toNat, .int .u8 d7.toNat] 41)
  have HC2 := Lib.hid (HC1.out.keep hka)
  have HE2 := Lib.hid (CE.new w1 41 (.int .i64 ki) (.int .i64 bk) (.int .u64 vr) (.int .u8 d0.toNat) (.int .u8 d1.toNat) (.int .u8 d2.toNat) (.int .u8 d3.toNat) (.int .u8 d4.toNat) (.int .u8 d5.toNat) (.int .u8 d6.toNat) (.int .u8 d7.toNat))
  have HW2 := Lib.hid (HW1.out.on hka)
  clear hka HC1 HW1
  go_upto_region 2 with fail
  generalize w1.alloc (.cells #[.int .i64 ki, .int .i64 bk, .int .u64 vr, .int .u8 d0.toNat, .int .u8 d1.toNat, .int .u8 d2.toNat, .int .u8 d3.toNat, .int .u8 d4.toNat, .int .u8 d5.toNat, .int .u8 d6.toNat, .int .u8 d7.toNat] 41) = w2 at *
  have hTR : ¬ w1.heap.size = w.heap.size := by have := HTL.out; omega
  have hRT : ¬ w.heap.size = w1.heap.size := by have := HTL.out; omega
  generalize w1.heap.size = T at *
  have g0 := HC2.out.c0
  have g1 := HC2.out.c1
  have g2 := HC2.out.c2
  have g3 := HC2.out.c3
  have g4 := HC2.out.c4
  have g5 := HC2.out.c5
  have g6 := HC2.out.c6
  have g7 := HC2.out.c7
  have g8 := HC2.out.c8
  have g9 := HC2.out.c9
  have g10 := HC2.out.c10
  have gf := HC2.out.f
  have c0 := HE2.out.c0
  have c1 := HE2.out.c1
  have c2 := HE2.out.c2
  have c3 := HE2.out.c3
  have c4 := HE2.out.c4
  have c5 := HE2.out.c5
  have c6 := HE2.out.c6
  have c7 := HE2.out.c7
  have c8 := HE2.out.c8
  have c9 := HE2.out.c9
  have c10 := HE2.out.c10
  have cf := HE2.out.f
  have HX : Hid (x = 0 ∨ x = 5 ∨ x = 6) := Lib.hid HXE.out
  clear HXE
  rcases HX.out with hx | hx | hx
  · subst hx
    have HQ : Hid (decide (bk < bl) = cb) := Lib.hid (by have := HCB.out; simpa using this)
    go_region_law (fail)
    all_goals
      go_wp2_with fail
      have HJ := Lib.hid ((HC2.out.set (.int .i64 ki) (.int .i64 bk) (.int .u64 vr) (.int .u8 d0.toNat) (.int .u8 d1.toNat) (.int .u8 d2.toNat) (.int .u8 d3.toNat) (.int .u8 d4.toNat) (.int .u8 d5.toNat) (.int .u8 d6.toNat) (.int .u8 d7.toNat)).keep (Below.refl _ _).drew)
      have HJB := Lib.hid ((CE.below HW2.out (Nat.le_refl _) (.int .i64 ki) (.int .i64 bk) (.int .u64 vr) (.int .u8 d0.toNat) (.int .u8 d1.toNat) (.int .u8 d2.toNat) (.int .u8 d3.toNat) (.int .u8 d4.toNat) (.int .u8 d5.toNat) (.int .u8 d6.toNat) (.int .u8 d7.toNat)).drew)
      show bodyPost _ _ _ _ _ (setE w2 w.heap.size (.int .i64 ki) (.int .i64 bk) (.int .u64 vr) (.int .u8 d0.toNat) (.int .u8 d1.toNat) (.int .u8 d2.toNat) (.int .u8 d3.toNat) (.int .u8 d4.toNat) (.int .u8 d5.toNat) (.int .u8 d6.toNat) (.int .u8 d7.toNat)).drew
      clear g0 g1 g2 g3 g4 g5 g6 g7 g8 g9 g10 gf hsd
      clear c0 c1 c2 c3 c4 c5 c6 c7 c8 c9 c10 cf
      generalize (setE w2 w.heap.size (.int .i64 ki) (.int .i64 bk) (.int .u64 vr) (.int .u8 d0.toNat) (.int .u8 d1.toNat) (.int .u8 d2.toNat) (.int .u8 d3.toNat) (.int .u8 d4.toNat) (.int .u8 d5.toNat) (.int .u8 d6.toNat) (.int .u8 d7.toNat)).drew = w3 at *
      have c0 := HJ.out.c0
      have c1 := HJ.out.c1
      have c2 := HJ.out.c2
      have c3 := HJ.out.c3
      have c4 := HJ.out.c4
      have c5 := HJ.out.c5
      have c6 := HJ.out.c6
      have c7 := HJ.out.c7
      have c8 := HJ.out.c8
      have c9 := HJ.out.c9
      have c10 := HJ.out.c10
      have cf := HJ.out.f
      (try simp only [Exit.inBlock, Exit.then])
      refine bodyPost_ret (v := .tuple #[.agg #[.int .i64 ki, .int .i64 bk, .int .u64 vr, .int .u8 d0.toNat, .int .u8 d1.toNat, .int .u8 d2.toNat, .int .u8 d3.toNat, .int .u8 d4.toNat, .int .u8 d5.toNat, .int .u8 d6.toNat, .int .u8 d7.toNat], .int .u64 t, .bool (decide (bk < bl))]) (by first | (rw [sres_cell_tmp2 rfl]; go_simp; done) | (rw [sres_cell_one rfl]; go_simp; done)) rfl ?_
      exact ⟨by rw [HQ.out], HJB.out⟩
  · subst hx
    have HQ : Hid (false = cb) := Lib.hid (by have := HCB.out; simpa using this)
    have HC3 := Lib.hid (HC2.out.keep (Below.refl _ _).drew)
    have HE3 := Lib.hid (HE2.out.keep (Below.refl _ _).drew)
    refine wp_region_held_drew (S := (fun w' => w'.cell? ⟨T, 0, none⟩ = some (.int .i64 ki) ∧ w'.cell? ⟨T, 1, none⟩ = some (.int .i64 bk) ∧ w'.cell? ⟨T, 2, none⟩ = some (.int .u64 vr) ∧ w'.cell? ⟨T, 3, none⟩ = some (.int .u8 d0.toNat) ∧ w'.cell? ⟨T, 4, none⟩ = some (.int .u8 d1.toNat) ∧ w'.cell? ⟨T, 5, none⟩ = some (.int .u8 d2.toNat) ∧ w'.cell? ⟨T, 6, none⟩ = some (.int .u8 d3.toNat) ∧ w'.cell? ⟨T, 7, none⟩ = some (.int .u8 d4.toNat) ∧ w'.cell? ⟨T, 8, none⟩ = some (.int .u8 d5.toNat) ∧ w'.cell? ⟨T, 9, none⟩ = some (.int .u8 d6.toNat) ∧ w'.cell? ⟨T, 10, none⟩ = some (.int .u8 d7.toNat))) (by kernel_rfl) ⟨HE3.out.c0, HE3.out.c1, HE3.out.c2, HE3.out.c3, HE3.out.c4, HE3.out.c5, HE3.out.c6, HE3.out.c7, HE3.out.c8, HE3.out.c9, HE3.out.c10⟩ (fun hHeld => ?_)
    refine wpAnyH_take (i := 0) (v := ?_) rfl (by kernel_rfl) (by kernel_rfl) (by kernel_rfl) (fun _ _ _ h => h) (Or.inl ⟨by rfl, ?_⟩) (by assumption) ?_
    rotate_left
    · (intro w hSw; (try dsimp only at hSw); go_simp; try with_reducible rfl)
    try simp only [Act.put, List.setIfInBounds_toArray, List.set_cons_zero, List.set_cons_succ]
    refine wpAnyH_take (i := 1) (v := ?_) rfl (by kernel_rfl) (by kernel_rfl) (by kernel_rfl) (fun _ _ _ h => h) (Or.inl ⟨by rfl, ?_⟩) (by assumption) ?_
    rotate_left
    · (intro w hSw; (try dsimp only at hSw); go_simp; try with_reducible rfl)
    try simp only [Act.put, List.setIfInBounds_toArray, List.set_cons_zero, List.set_cons_succ]
    refine wpAnyH_take (i := 2) (v := ?_) rfl (by kernel_rfl) (by kernel_rfl) (by kernel_rfl) (fun _ _ _ h => h) (Or.inl ⟨by rfl, ?_⟩) (by assumption) ?_
    rotate_left
    · (intro w hSw; (try dsimp only at hSw); go_simp; try with_reducible rfl)
    try simp only [Act.put, List.setIfInBounds_toArray, List.set_cons_zero, List.set_cons_succ]
    refine wpAnyH_take (i := 3) (v := (.bool false)) rfl (by kernel_rfl) (by kernel_rfl) (by kernel_rfl) (fun _ _ _ h => h) (Or.inl ⟨by rfl, ?_⟩) (by assumption) ?_
    · (intro w hSw; (try dsimp only at hSw); go_simp)
    try simp only [Act.put, List.getElem_toArray, List.getElem_cons_succ, List.getElem_cons_zero, List.setIfInBounds_toArray, List.set_cons_zero, List.set_cons_succ]
    refine wpAnyH_take (i := 4) (v := (.bool false)) rfl (by kernel_rfl) (by kernel_rfl) (by kernel_rfl) (fun _ _ _ h => h) (Or.inl ⟨by rfl, ?_⟩) (by assumption) ?_
    · (intro w hSw; (try dsimp only at hSw); go_simp)
    try simp only [Act.put, List.getElem_toArray, List.getElem_cons_succ, List.getElem_cons_zero, List.setIfInBounds_toArray, List.set_cons_zero, List.set_cons_succ]
    refine wpAnyH_take (i := 5) (v := undef) rfl (by kernel_rfl) (by kernel_rfl) (by kernel_rfl) (fun _ _ _ h => h) (Or.inr ⟨by rfl, rfl⟩) (by assumption) ?_
    try simp only [Act.put, List.getElem_toArray, List.getElem_cons_succ, List.getElem_cons_zero, List.setIfInBounds_toArray, List.set_cons_zero, List.set_cons_succ]
    refine wpAnyH_take (i := 6) (v := undef) rfl (by kernel_rfl) (by kernel_rfl) (by kernel_rfl) (fun _ _ _ h => h) (Or.inr ⟨by rfl, rfl⟩) (by assumption) ?_
    try simp only [Act.put, List.getElem_toArray, List.getElem_cons_succ, List.getElem_cons_zero, List.setIfInBounds_toArray, List.set_cons_zero, List.set_cons_succ]
    refine wpAnyH_take (i := 7) (v := undef) rfl (by kernel_rfl) (by kernel_rfl) (by kernel_rfl) (fun _ _ _ h => h) (Or.inr ⟨by rfl, rfl⟩) (by assumption) ?_
    try simp only [Act.put, List.getElem_toArray, List.getElem_cons_succ, List.getElem_cons_zero, List.setIfInBounds_toArray, List.set_cons_zero, List.set_cons_succ]
    refine wpAnyH_take (i := 8) (v := undef) rfl (by kernel_rfl) (by kernel_rfl) (by kernel_rfl) (fun _ _ _ h => h) (Or.inr ⟨by rfl, rfl⟩) (by assumption) ?_
    try simp only [Act.put, List.getElem_toArray, List.getElem_cons_succ, List.getElem_cons_zero, List.setIfInBounds_toArray, List.set_cons_zero, List.set_cons_succ]
    refine wpAnyH_take (i := 9) (v := (.bool false)) rfl (by kernel_rfl) (by kernel_rfl) (by kernel_rfl) (fun _ _ _ h => h) (Or.inl ⟨by rfl, ?_⟩) (by assumption) ?_
    · (intro w hSw; (try dsimp only at hSw); go_simp)
    try simp only [Act.put, List.getElem_toArray, List.getElem_cons_succ, List.getElem_cons_zero, List.setIfInBounds_toArray, List.set_cons_zero, List.set_cons_succ]
    refine wpAnyH_ready (rs := [10]) (by kernel_rfl) (by simp) ?_
    refine AllReadyH.cons rfl (fun K hK => ?_) AllReadyH.nil
    go_simp
    have HE4 := Lib.hid ((HE2.out.other (R := w.heap.size) hTR (.int .i64 ki) (.int .i64 bk) (.int .u64 vr) (.int .u8 d0.toNat) (.int .u8 d1.toNat) (.int .u8 d2.toNat) (.int .u8 d3.toNat) (.int .u8 d4.toNat) (.int .u8 d5.toNat) (.int .u8 d6.toNat) (.int .u8 d7.toNat)).keep (Below.refl _ _).drew)
    have HJ := Lib.hid ((HC2.out.set (.int .i64 ki) (.int .i64 bk) (.int .u64 vr) (.int .u8 d0.toNat) (.int .u8 d1.toNat) (.int .u8 d2.toNat) (.int .u8 d3.toNat) (.int .u8 d4.toNat) (.int .u8 d5.toNat) (.int .u8 d6.toNat) (.int .u8 d7.toNat)).keep (Below.refl _ _).drew)
    have HJB := Lib.hid ((CE.below HW2.out (Nat.le_refl _) (.int .i64 ki) (.int .i64 bk) (.int .u64 vr) (.int .u8 d0.toNat) (.int .u8 d1.toNat) (.int .u8 d2.toNat) (.int .u8 d3.toNat) (.int .u8 d4.toNat) (.int .u8 d5.toNat) (.int .u8 d6.toNat) (.int .u8 d7.toNat)).drew)
    refine hK.out _ ((setE w2 w.heap.size (.int .i64 ki) (.int .i64 bk) (.int .u64 vr) (.int .u8 d0.toNat) (.int .u8 d1.toNat) (.int .u8 d2.toNat) (.int .u8 d3.toNat) (.int .u8 d4.toNat) (.int .u8 d5.toNat) (.int .u8 d6.toNat) (.int .u8 d7.toNat)).drew) ⟨HE4.out.c0, HE4.out.c1, HE4.out.c2, HE4.out.c3, HE4.out.c4, HE4.out.c5, HE4.out.c6, HE4.out.c7, HE4.out.c8, HE4.out.c9, HE4.out.c10⟩ (fun hHeld => ?_)
    clear hK K g0 g1 g2 g3 g4 g5 g6 g7 g8 g9 g10 gf hsd
    clear c0 c1 c2 c3 c4 c5 c6 c7 c8 c9 c10 cf
    generalize (setE w2 w.heap.size (.int .i64 ki) (.int .i64 bk) (.int .u64 vr) (.int .u8 d0.toNat) (.int .u8 d1.toNat) (.int .u8 d2.toNat) (.int .u8 d3.toNat) (.int .u8 d4.toNat) (.int .u8 d5.toNat) (.int .u8 d6.toNat) (.int .u8 d7.toNat)).drew = w3 at *
    try simp only [Act.put, List.setIfInBounds_toArray, List.set_cons_zero, List.set_cons_succ]
    refine wpAnyH_take (i := 11) (v := (.int .u64 t)) rfl (by kernel_rfl) (by kernel_rfl) (by kernel_rfl) (fun _ _ _ h => h) (Or.inl ⟨by rfl, ?_⟩) (by assumption) ?_
    · (intro w hSw; (try dsimp only at hSw); go_simp)
    try simp only [Act.put, List.getElem_toArray, List.getElem_cons_succ, List.getElem_cons_zero, List.setIfInBounds_toArray, List.set_cons_zero, List.set_cons_succ]
    refine wpAnyH_take (i := 12) (v := (.bool false)) rfl (by kernel_rfl) (by kernel_rfl) (by kernel_rfl) (fun _ _ _ h => h) (Or.inl ⟨by rfl, ?_⟩) (by assumption) ?_
    · (intro w hSw; (try dsimp only at hSw); go_simp)
    try simp only [Act.put, List.getElem_toArray, List.getElem_cons_succ, List.getElem_cons_zero, List.setIfInBounds_toArray, List.set_cons_zero, List.set_cons_succ]
    refine wpAnyH_done (by kernel_rfl) ?_ _
    go_wp2_with fail
    have c0 := HJ.out.c0
    have c1 := HJ.out.c1
    have c2 := HJ.out.c2
    have c3 := HJ.out.c3
    have c4 := HJ.out.c4
    have c5 := HJ.out.c5
    have c6 := HJ.out.c6
    have c7 := HJ.out.c7
    have c8 := HJ.out.c8
    have c9 := HJ.out.c9
    have c10 := HJ.out.c10
    have cf := HJ.out.f
    (try simp only [Exit.inBlock, Exit.then])
    refine bodyPost_ret (v := .tuple #[.agg #[.int .i64 ki, .int .i64 bk, .int .u64 vr, .int .u8 d0.toNat, .int .u8 d1.toNat, .int .u8 d2.toNat, .int .u8 d3.toNat, .int .u8 d4.toNat, .int .u8 d5.toNat, .int .u8 d6.toNat, .int .u8 d7.toNat], .int .u64 t, .bool false]) (by first | (rw [sres_cell_tmp2 rfl]; go_simp; done) | (rw [sres_cell_one rfl]; go_simp; done)) rfl ?_
    exact ⟨by rw [HQ.out], HJB.out⟩
  · subst hx
    have HQ : Hid (false = cb) := Lib.hid (by have := HCB.out; simpa using this)
    have HC3 := Lib.hid (HC2.out.keep (Below.refl _ _).drew)
    have HE3 := Lib.hid (HE2.out.keep (Below.refl _ _).drew)
    refine wp_region_held_drew (S := (fun w' => w'.cell? ⟨T, 0, none⟩ = some (.int .i64 ki) ∧ w'.cell? ⟨T, 1, none⟩ = some (.int .i64 bk) ∧ w'.cell? ⟨T, 2, none⟩ = some (.int .u64 vr) ∧ w'.cell? ⟨T, 3, none⟩ = some (.int .u8 d0.toNat) ∧ w'.cell? ⟨T, 4, none⟩ = some (.int .u8 d1.toNat) ∧ w'.cell? ⟨T, 5, none⟩ = some (.int .u8 d2.toNat) ∧ w'.cell? ⟨T, 6, none⟩ = some (.int .u8 d3.toNat) ∧ w'.cell? ⟨T, 7, none⟩ = some (.int .u8 d4.toNat) ∧ w'.cell? ⟨T, 8, none⟩ = some (.int .u8 d5.toNat) ∧ w'.cell? ⟨T, 9, none⟩ = some (.int .u8 d6.toNat) ∧ w'.cell? ⟨T, 10, none⟩ = some (.int .u8 d7.toNat))) (by kernel_rfl) ⟨HE3.out.c0, HE3.out.c1, HE3.out.c2, HE3.out.c3, HE3.out.c4, HE3.out.c5, HE3.out.c6, HE3.out.c7, HE3.out.c8, HE3.out.c9, HE3.out.c10⟩ (fun hHeld => ?_)
    refine wpAnyH_take (i := 0) (v := ?_) rfl (by kernel_rfl) (by kernel_rfl) (by kernel_rfl) (fun _ _ _ h => h) (Or.inl ⟨by rfl, ?_⟩) (by assumption) ?_
    rotate_left
    · (intro w hSw; (try dsimp only at hSw); go_simp; try with_reducible rfl)
    try simp only [Act.put, List.setIfInBounds_toArray, List.set_cons_zero, List.set_cons_succ]
    refine wpAnyH_take (i := 1) (v := ?_) rfl (by kernel_rfl) (by kernel_rfl) (by kernel_rfl) (fun _ _ _ h => h) (Or.inl ⟨by rfl, ?_⟩) (by assumption) ?_
    rotate_left
    · (intro w hSw; (try dsimp only at hSw); go_simp; try with_reducible rfl)
    try simp only [Act.put, List.setIfInBounds_toArray, List.set_cons_zero, List.set_cons_succ]
    refine wpAnyH_take (i := 2) (v := ?_) rfl (by kernel_rfl) (by kernel_rfl) (by kernel_rfl) (fun _ _ _ h => h) (Or.inl ⟨by rfl, ?_⟩) (by assumption) ?_
    rotate_left
    · (intro w hSw; (try dsimp only at hSw); go_simp; try with_reducible rfl)
    try simp only [Act.put, List.setIfInBounds_toArray, List.set_cons_zero, List.set_cons_succ]
    refine wpAnyH_take (i := 3) (v := (.bool false)) rfl (by kernel_rfl) (by kernel_rfl) (by kernel_rfl) (fun _ _ _ h => h) (Or.inl ⟨by rfl, ?_⟩) (by assumption) ?_
    · (intro w hSw; (try dsimp only at hSw); go_simp)
    try simp only [Act.put, List.getElem_toArray, List.getElem_cons_succ, List.getElem_cons_zero, List.setIfInBounds_toArray, List.set_cons_zero, List.set_cons_succ]
    refine wpAnyH_take (i := 4) (v := (.bool false)) rfl (by kernel_rfl) (by kernel_rfl) (by kernel_rfl) (fun _ _ _ h => h) (Or.inl ⟨by rfl, ?_⟩) (by assumption) ?_
    · (intro w hSw; (try dsimp only at hSw); go_simp)
    try simp only [Act.put, List.getElem_toArray, List.getElem_cons_succ, List.getElem_cons_zero, List.setIfInBounds_toArray, List.set_cons_zero, List.set_cons_succ]
    refine wpAnyH_take (i := 5) (v := undef) rfl (by kernel_rfl) (by kernel_rfl) (by kernel_rfl) (fun _ _ _ h => h) (Or.inr ⟨by rfl, rfl⟩) (by assumption) ?_
    try simp only [Act.put, List.getElem_toArray, List.getElem_cons_succ, List.getElem_cons_zero, List.setIfInBounds_toArray, List.set_cons_zero, List.set_cons_succ]
    refine wpAnyH_take (i := 6) (v := undef) rfl (by kernel_rfl) (by kernel_rfl) (by kernel_rfl) (fun _ _ _ h => h) (Or.inr ⟨by rfl, rfl⟩) (by assumption) ?_
    try simp only [Act.put, List.getElem_toArray, List.getElem_cons_succ, List.getElem_cons_zero, List.setIfInBounds_toArray, List.set_cons_zero, List.set_cons_succ]
    refine wpAnyH_take (i := 7) (v := undef) rfl (by kernel_rfl) (by kernel_rfl) (by kernel_rfl) (fun _ _ _ h => h) (Or.inr ⟨by rfl, rfl⟩) (by assumption) ?_
    try simp only [Act.put, List.getElem_toArray, List.getElem_cons_succ, List.getElem_cons_zero, List.setIfInBounds_toArray, List.set_cons_zero, List.set_cons_succ]
    refine wpAnyH_take (i := 8) (v := undef) rfl (by kernel_rfl) (by kernel_rfl) (by kernel_rfl) (fun _ _ _ h => h) (Or.inr ⟨by rfl, rfl⟩) (by assumption) ?_
    try simp only [Act.put, List.getElem_toArray, List.getElem_cons_succ, List.getElem_cons_zero, List.setIfInBounds_toArray, List.set_cons_zero, List.set_cons_succ]
    refine wpAnyH_take (i := 9) (v := (.bool false)) rfl (by kernel_rfl) (by kernel_rfl) (by kernel_rfl) (fun _ _ _ h => h) (Or.inl ⟨by rfl, ?_⟩) (by assumption) ?_
    · (intro w hSw; (try dsimp only at hSw); go_simp)
    try simp only [Act.put, List.getElem_toArray, List.getElem_cons_succ, List.getElem_cons_zero, List.setIfInBounds_toArray, List.set_cons_zero, List.set_cons_succ]
    refine wpAnyH_ready (rs := [10]) (by kernel_rfl) (by simp) ?_
    refine AllReadyH.cons rfl (fun K hK => ?_) AllReadyH.nil
    go_simp
    have HE4 := Lib.hid ((HE2.out.other (R := w.heap.size) hTR (.int .i64 ki) (.int .i64 bk) (.int .u64 vr) (.int .u8 d0.toNat) (.int .u8 d1.toNat) (.int .u8 d2.toNat) (.int .u8 d3.toNat) (.int .u8 d4.toNat) (.int .u8 d5.toNat) (.int .u8 d6.toNat) (.int .u8 d7.toNat)).keep (Below.refl _ _).drew)
    have HJ := Lib.hid ((HC2.out.set (.int .i64 ki) (.int .i64 bk) (.int .u64 vr) (.int .u8 d0.toNat) (.int .u8 d1.toNat) (.int .u8 d2.toNat) (.int .u8 d3.toNat) (.int .u8 d4.toNat) (.int .u8 d5.toNat) (.int .u8 d6.toNat) (.int .u8 d7.toNat)).keep (Below.refl _ _).drew)
    have HJB := Lib.hid ((CE.below HW2.out (Nat.le_refl _) (.int .i64 ki) (.int .i64 bk) (.int .u64 vr) (.int .u8 d0.toNat) (.int .u8 d1.toNat) (.int .u8 d2.toNat) (.int .u8 d3.toNat) (.int .u8 d4.toNat) (.int .u8 d5.toNat) (.int .u8 d6.toNat) (.int .u8 d7.toNat)).drew)
    refine hK.out _ ((setE w2 w.heap.size (.int .i64 ki) (.int .i64 bk) (.int .u64 vr) (.int .u8 d0.toNat) (.int .u8 d1.toNat) (.int .u8 d2.toNat) (.int .u8 d3.toNat) (.int .u8 d4.toNat) (.int .u8 d5.toNat) (.int .u8 d6.toNat) (.int .u8 d7.toNat)).drew) ⟨HE4.out.c0, HE4.out.c1, HE4.out.c2, HE4.out.c3, HE4.out.c4, HE4.out.c5, HE4.out.c6, HE4.out.c7, HE4.out.c8, HE4.out.c9, HE4.out.c10⟩ (fun hHeld => ?_)
    clear hK K g0 g1 g2 g3 g4 g5 g6 g7 g8 g9 g10 gf hsd
    clear c0 c1 c2 c3 c4 c5 c6 c7 c8 c9 c10 cf
    generalize (setE w2 w.heap.size (.int .i64 ki) (.int .i64 bk) (.int .u64 vr) (.int .u8 d0.toNat) (.int .u8 d1.toNat) (.int .u8 d2.toNat) (.int .u8 d3.toNat) (.int .u8 d4.toNat) (.int .u8 d5.toNat) (.int .u8 d6.toNat) (.int .u8 d7.toNat)).drew = w3 at *
    try simp only [Act.put, List.setIfInBounds_toArray, List.set_cons_zero, List.set_cons_succ]
    refine wpAnyH_take (i := 11) (v := (.int .u64 t)) rfl (by kernel_rfl) (by kernel_rfl) (by kernel_rfl) (fun _ _ _ h => h) (Or.inl ⟨by rfl, ?_⟩) (by assumption) ?_
    · (intro w hSw; (try dsimp only at hSw); go_simp)
    try simp only [Act.put, List.getElem_toArray, List.getElem_cons_succ, List.getElem_cons_zero, List.setIfInBounds_toArray, List.set_cons_zero, List.set_cons_succ]
    refine wpAnyH_take (i := 12) (v := (.bool false)) rfl (by kernel_rfl) (by kernel_rfl) (by kernel_rfl) (fun _ _ _ h => h) (Or.inl ⟨by rfl, ?_⟩) (by assumption) ?_
    · (intro w hSw; (try dsimp only at hSw); go_simp)
    try simp only [Act.put, List.getElem_toArray, List.getElem_cons_succ, List.getElem_cons_zero, List.setIfInBounds_toArray, List.set_cons_zero, List.set_cons_succ]
    refine wpAnyH_done (by kernel_rfl) ?_ _
    go_wp2_with fail
    have c0 := HJ.out.c0
    have c1 := HJ.out.c1
    have c2 := HJ.out.c2
    have c3 := HJ.out.c3
    have c4 := HJ.out.c4
    have c5 := HJ.out.c5
    have c6 := HJ.out.c6
    have c7 := HJ.out.c7
    have c8 := HJ.out.c8
    have c9 := HJ.out.c9
    have c10 := HJ.out.c10
    have cf := HJ.out.f
    (try simp only [Exit.inBlock, Exit.then])
    refine bodyPost_ret (v := .tuple #[.agg #[.int .i64 ki, .int .i64 bk, .int .u64 vr, .int .u8 d0.toNat, .int .u8 d1.toNat, .int .u8 d2.toNat, .int .u8 d3.toNat, .int .u8 d4.toNat, .int .u8 d5.toNat, .int .u8 d6.toNat, .int .u8 d7.toNat], .int .u64 t, .bool false]) (by first | (rw [sres_cell_tmp2 rfl]; go_simp; done) | (rw [sres_cell_one rfl]; go_simp; done)) rfl ?_
    exact ⟨by rw [HQ.out], HJB.out⟩
end Go.Proofs.Ytbiecglooagmmaa
