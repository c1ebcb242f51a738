/-
  The walk of the law ExtentUnique.
  Conditions: none beyond that the arguments can be read.
-/
import Derived.Test.YtcalianponiioaaTgI
import Derived.Test.YtcalianponiioaaTgS
import Derived.Deep.CutRange
namespace Go.Proofs.Ytcalianponiioaa
set_option linter.unusedSimpArgs false
set_option linter.unusedVariables false
open Go.RowKit

set_option maxHeartbeats 1000000 in
theorem unique_early (l : List E) (i j : Int) (a : Option Addr) (c : Nat) (w : World) (hlen : l.length ≤ 9223372036854775807) (hr : l.length ≤ 46912496118443 → Rd w a l) (hw : wfL l) (he : l.length = 0 ∨ 20 < l.length ∨ validB l = false) :
    Calls Try.prog 4 #[.slice a l.length c, .int .u16 i, .int .u16 j] w fun e w' => e = .returned (.bool true) ∧ Below w.heap.size w w' := by
  by_cases h0 : l.length = 0
  · have hz : ((l.length : Int) == 0) = true := beq_iff_eq.2 (by omega)
    have HV := Lib.hid (rfl : validB l = validB l)
    have hr := hr (by omega)
    clear h0 he
    go_enter Try.func4, Try.ntmps4
    go_wp2_with (first | (go_at_call 11; refine (awake_any _).mono ?_; rintro e w1 ⟨rfl, hb1⟩) | (go_at_call 16; refine (rvalid_is _ _ _ _ _ HV.out (hr.keep hb1) hw).mono ?_; rintro e w2 ⟨rfl, hb2⟩))
    go_ret
    exact ⟨rfl, hb1⟩
  · have hz : ((l.length : Int) == 0) = false := beq_eq_false_iff_ne.2 (by omega)
    by_cases h20 : 20 < l.length
    · have hd : decide ((20 : Int) < (l.length : Int)) = true := by simp; omega
      clear h0 he hr
      go_enter Try.func4, Try.ntmps4
      go_wp2_with (go_at_call 11; refine (awake_any _).mono ?_; rintro e w1 ⟨rfl, hb1⟩)
      go_ret
      exact ⟨rfl, hb1⟩
    · have hd : decide ((20 : Int) < (l.length : Int)) = false := by simp; omega
      have HV := Lib.hid ((he.resolve_left h0).resolve_left h20)
      have hr := hr (by omega)
      have h20' : l.length ≤ 20 := by omega
      clear h0 he h20
      go_enter Try.func4, Try.ntmps4
      go_wp2_with (first | (go_at_call 11; refine (awake_any _).mono ?_; rintro e w1 ⟨rfl, hb1⟩) | (go_at_call 16; refine (rvalid_is _ _ _ _ _ HV.out (hr.keep hb1) hw).mono ?_; rintro e w2 ⟨rfl, hb2⟩))
      go_ret
      exact ⟨rfl, hb1.on hb2⟩

theorem sepOf {v v' : Value} {N M : Nat} (h : ∀ j, v.ownBlock = some j → j < N) (h' : ∀ j, v'.ownBlock = some j → N ≤ j ∧ j < M) : v.ownBlock = none ∨ v.ownBlock ≠ v'.ownBlock := by
  cases hv : v.ownBlock with
  | none => exact .inl rfl
  | some j => exact .inr fun e => by have := h j hv; have := (h' j e.symm).1; omega
theorem len1 {P : Program} {f : FuncId} {a : Option Addr} {n m c : Nat} {w : World} {R : Ending → World → Prop} (hn : n = m) (h : Calls P f #[.slice a m c] w R) : Calls P f #[.slice a n c] w R := by
  subst hn; exact h
theorem copied_n (l : List E) (n : Nat) (hn : n = l.length) (a : Option Addr) (c : Nat) (w : World) (hr : Rd w a l) (hl : l.length ≤ 1000000000) :
    Calls Try.prog 12 #[.slice a n c] w fun e w' => ∃ v, e = .returned v ∧ OwnE w' w.heap.size v l ∧ Below w.heap.size w w' := by
  subst hn
  exact copied_any l a c w hr hl
theorem cellsL_slot (l : List E) (k : Nat) (h : k < l.length) (s : Int) : (cellsL l).set (k * 3 + 2) (.int .i64 s) = cellsL (l.set k (l[k].slot s)) := by
  rw [set_split l k h]
  have e : cellsL l = cellsL (l.take k) ++ (E.cells l[k] ++ cellsL (l.drop (k + 1))) := by
    conv => lhs; rw [split_at l k h, cellsL_append]
    rfl
  have hk : (cellsL (l.take k)).length = k * 3 := by rw [cellsL_length, List.length_take, Nat.min_eq_left (by omega)]
  rw [e, cellsL_append, List.set_append_right _ _ (by rw [hk]; omega), hk, show k * 3 + 2 - k * 3 = 2 by omega]
  rfl
theorem OwnE.slot {w : World} {B g c : Nat} {l : List E} (h : OwnE w B (.slice (some ⟨g, 0, none⟩) l.length c) l) (k : Nat) (hk : k < l.length) (s : Int) :
    OwnE (w.setCell ⟨g, k * 3 + 2, none⟩ (.int .i64 s)) B (.slice (some ⟨g, 0, none⟩) l.length c) (l.set k (l[k].slot s)) ∧ w.grownBy (w.setCell ⟨g, k * 3 + 2, none⟩ (.int .i64 s)) (some g) := by
  have hst := World.ownsRow.stored h (k * 3 + 2) (.int .i64 s)
  rw [cellsL_slot l k hk s] at hst
  refine ⟨?_, hst.2⟩
  unfold OwnE
  rw [List.length_set]
  exact hst.1
theorem Rd.take {w : World} {a : Option Addr} {l : List E} (h : Rd w a l) (k : Nat) : Rd w a (l.take k) := by
  refine ⟨Nat.le_trans (List.length_take_le' ..) h.1, h.2.imp (fun e => by rw [e]; simp) fun ⟨b, o, ha, hat⟩ => ⟨b, o, ha, fun j x hj => hat j x ?_⟩⟩
  rw [List.getElem?_take] at hj
  split at hj
  · exact hj
  · cases hj
theorem Rd.drop {w : World} {b o : Nat} {l : List E} (h : Rd w (some ⟨b, o, none⟩) l) (k : Nat) : Rd w (some ⟨b, o + k * 3, none⟩) (l.drop k) := by
  refine ⟨by have := h.1; simp; omega, ?_⟩
  rcases h.2 with rfl | ⟨b', o', ha, hat⟩
  · exact .inl (by simp)
  · simp only [Option.some.injEq, Addr.mk.injEq, and_true] at ha
    obtain ⟨rfl, rfl⟩ := ha
    refine .inr ⟨_, _, rfl, fun j x hj => ?_⟩
    rw [List.getElem?_drop] at hj
    obtain ⟨c1, c2, c3⟩ := hat (k + j) x hj
    have e : b + 0 = b := rfl
    refine ⟨?_, ?_, ?_⟩
    · rw [show o + k * 3 + j * 3 = o + (k + j) * 3 by omega]; exact c1
    · rw [show o + k * 3 + j * 3 + 1 = o + (k + j) * 3 + 1 by omega]; exact c2
    · rw [show o + k * 3 + j * 3 + 2 = o + (k + j) * 3 + 2 by omega]; exact c3

set_option maxHeartbeats 8000000 in
theorem unique_main (l : List E) (i j : Int) (a : Option Addr) (c : Nat) (w : World) (hcap : l.length ≤ c) (hcap2 : c ≤ 9223372036854775807) (hr : Rd w a l) (hw : wfL l) (h1 : 1 ≤ l.length) (h20 : l.length ≤ 20) (hv : validB l = true)
    (bi : 0 ≤ i ∧ i ≤ 65535) (bj : 0 ≤ j ∧ j ≤ 65535) :
    Calls Try.prog 4 #[.slice a l.length c, .int .u16 i, .int .u16 j] w fun e w' => e = .returned (.bool true) ∧ Below w.heap.size w w' := by
  obtain ⟨i0, hi, hz0, hz1, hz2⟩ := info_parts infoE
  have hz : ((l.length : Int) == 0) = false := beq_eq_false_iff_ne.2 (by omega)
  have hd : decide ((20 : Int) < (l.length : Int)) = false := by simp; omega
  have HV := Lib.hid hv
  have hk1 := Int.emod_lt_of_pos i (show (0 : Int) < (l.length : Int) by omega)
  have hk0 := Int.emod_nonneg i (show (l.length : Int) ≠ 0 by omega)
  obtain ⟨k, hk⟩ : ∃ k : Nat, i % (l.length : Int) = k := ⟨(i % (l.length : Int)).toNat, by omega⟩
  have hkl : k < l.length := by omega
  obtain ⟨b, o, rfl, hat⟩ := hr.at (by omega)
  have hx := List.getElem?_eq_getElem hkl
  have HX := (okB_iff _).1 (validB_ok hv l[k] (List.getElem_mem hkl))
  clear hk1 hk0 hv
  obtain ⟨i1, i2⟩ := bi
  obtain ⟨j1, j2⟩ := bj
  go_enter Try.func4, Try.ntmps4
  go_wp2_with (first | (go_at_call 11; refine (awake_any _).mono ?_; rintro e w1 ⟨rfl, hb1⟩) | (go_at_call 16; refine (rvalid_is _ _ _ _ _ HV.out (hr.keep hb1) hw).mono ?_; rintro e w2 ⟨rfl, hb2⟩; have hB2 := hb1.on hb2; obtain ⟨x1, x2, x3⟩ := (hat k _ hx).keep hB2))
  have hB3 := hB2.onAlloc (.cells #[.int .i64 l[k].a, .int .i64 l[k].n, .int .i64 l[k].s] 33)
  have hs0 : 0 ≤ (l[k].s + 1) % (65536 - l[k].n + 1) := Int.emod_nonneg _ (by omega)
  have hs1 := Int.emod_lt_of_pos (l[k].s + 1) (show 0 < 65536 - l[k].n + 1 by omega)
  have VS := Lib.hid (set_valid l k hkl _ (validB_ok HV.out |> fun _ => HV.out) hs0 (by omega))
  have NS := Lib.hid (fun (h : l[k].n < 65536) => set_other l k hkl _ HV.out hs0 (by omega) (fun e => by
    by_cases h1 : l[k].s + 1 < 65536 - l[k].n + 1
    · rw [Int.emod_eq_of_lt (by omega) h1] at e; omega
    · have : l[k].s + 1 = 65536 - l[k].n + 1 := by omega
      rw [this, Int.emod_self] at e; omega))
  generalize hsv : (l[k].s + 1) % (65536 - l[k].n + 1) = sv at *
  have hm1 := Int.emod_lt_of_pos j (show 0 < l[k].n by omega)
  have hm0 := Int.emod_nonneg j (show l[k].n ≠ 0 by omega)
  generalize hmv : j % l[k].n = m at *
  have DJ := Lib.hid (divided_join l k hkl m)
  have DV := Lib.hid (fun h0 => divided_valid l k hkl m HV.out h0 hm1)
  have OS := Lib.hid (fun (w : World) (B g c : Nat) (h : OwnE w B (.slice (some ⟨g, 0, none⟩) l.length c) l) => OwnE.slot h k hkl sv)
  have hxk := Lib.hid hx
  generalize hX : l[k] = x at *
  clear hx hX
  refine (join_yes l _ _ _ (hr.keep hB3) hw (by omega) HV.out).mono ?_
  rintro e w3 ⟨v3, rfl, ho3, hb3⟩
  have y1 : w3.cell? ⟨w2.heap.size, 0, none⟩ = some (.int .i64 x.a) := hb3.keep (by simp)
  have y2 : w3.cell? ⟨w2.heap.size, 1, none⟩ = some (.int .i64 x.n) := hb3.keep (by simp)
  have y3 : w3.cell? ⟨w2.heap.size, 2, none⟩ = some (.int .i64 x.s) := hb3.keep (by simp)
  have hB4 := hB3.on hb3
  have hX3 : w2.heap.size < w3.heap.size := World.block_lt_of_cell? _ _ y1
  have hsz := hB4.size
  have HO3 := Lib.hid (ho3.mono hB3.size)
  clear hb1 hb2 hb3 ho3 x1 x2 x3 hB2 hB3
  generalize hXb : w2.heap.size = X at *
  clear hXb
  go_wp2_with fail
  refine (copied_any l _ _ _ (hr.keep hB4) (by omega)).mono ?_
  rintro e w4 ⟨v4, rfl, ho4, hb4⟩
  obtain ⟨g, c4, rfl, hg1, hg2, hc1, hc2, hgt, hfz⟩ := (ho4.form).resolve_left (by intro h; rw [h.2] at h1; simp at h1)
  obtain ⟨z1, z2, z3⟩ := hgt k x hxk.out
  simp only [Nat.zero_add] at z3
  have hfr := hfz (k * 3 + 2)
  have y1 := hb4.keep y1
  have y2 := hb4.keep y2
  have y3 := hb4.keep y3
  have hB5 := hB4.on hb4
  have HO4 := Lib.hid (HO3.out.keep hb4)
  have hlt3 := HO3.out.lt
  have HC := Lib.hid (OS.out w4 w3.heap.size g c4 ho4)
  clear HO3 hgt hfz z1 z2 hb4 hB4 ho4
  have HL3 := Lib.hid hlt3
  clear hlt3
  go_wp2_with fail
  obtain ⟨hc5, hg5⟩ := HC.out
  generalize hW5 : World.setCell w4 _ _ = W5 at *
  have y1 := hg5.cell y1 (by simp; omega)
  have y2 := hg5.cell y2 (by simp; omega)
  have y3 := hg5.cell y3 (by simp; omega)
  have HO5 := Lib.hid (HO4.out.other hg5 (.inr fun e => by have := (HL3.out _ e).2; omega))
  have hB6 := hB5.onGrow hg5 (fun j hj => by simp at hj; omega)
  obtain ⟨a5, c5, e5, hr5⟩ := hc5.rd (by simp; omega)
  simp only [Value.slice.injEq] at e5
  rw [← e5.1] at hr5
  clear hW5 hc5 hg5 HC HO4 HL3 hB5 hfr e5
  refine (len1 (by simp) (join_yes (l.set k (x.slot sv)) _ c4 _ hr5 (wfL_of_ok (validB_ok VS.out)) (by simp; omega) VS.out)).mono ?_
  rintro e w6 ⟨v6, rfl, ho6, hb6⟩
  have y1 := hb6.keep y1
  have y2 := hb6.keep y2
  have y3 := hb6.keep y3
  have hB7 := hB6.on hb6
  have hjl := joinL_length l
  have hjl2 := joinL_length (l.set k (x.slot sv))
  simp only [List.length_set] at hjl2
  have HO3 := Lib.hid (HO5.out.keep hb6)
  obtain ⟨a3, c3, rfl, hr3⟩ := HO3.out.rd (by omega)
  obtain ⟨a6, c6, rfl, hr6⟩ := ho6.rd (by omega)
  have hr0 := Lib.hid hr
  clear hr
  clear hr5 hb6 hB6 HO5 ho6
  by_cases hxn : x.n < 65536
  · have hdx : decide (x.n < 65536) = true := by simpa using hxn
    have NS2 := Lib.hid (NS.out hxn)
    clear hxn
    go_wp2_with fail
    refine (same_is (joinL l) (joinL (l.set k (x.slot sv))) _ _ _ _ false _ NS2.out hr3 hr6).mono ?_
    rintro e w7 ⟨rfl, hb7⟩
    have y1 := hb7.keep y1
    have y2 := hb7.keep y2
    have y3 := hb7.keep y3
    have hB7 := hB7.on hb7
    have HO3 := Lib.hid (HO3.out.keep hb7)
    have HLT := Lib.hid (fun j hj => (HO3.out.lt j hj).2)
    clear hb7 hr6 hr3
    by_cases hm : m = 0
    · have hmb : (m == 0) = true := beq_iff_eq.2 hm
      clear hm
      go_wp2_with fail
      go_ret
      exact ⟨rfl, hB7⟩
    · have hmb : (m == 0) = false := beq_eq_false_iff_ne.2 hm
      have hm2 : 0 < m := by omega
      have DV2 := Lib.hid (DV.out hm2)
      clear hm
      by_cases hck : c = k + 1
      · subst hck
        have HLK : Hid (l.length - (k + 1) = 0 ∧ l.drop (k + 1) = []) := Lib.hid ⟨by omega, List.drop_eq_nil_of_le (by omega)⟩
        have HDR := Lib.hid (rfl : l.drop (k + 1) = l.drop (k + 1))
        go_wp2_with fail
        refine (copied_n (l.take k) k (by simp; omega) _ _ _ ((hr0.out.keep hB7).take k) (by simp; omega)).mono ?_
        rintro e w8 ⟨v8, rfl, ho8, hb8⟩
        have y1 := hb8.keep y1
        have y2 := hb8.keep y2
        have y3 := hb8.keep y3
        have hB8 := hB7.on hb8
        have hsz8 := hb8.size
        have HO3 := Lib.hid (HO3.out.keep hb8)
        have HO8 := Lib.hid (ho8.keep ((Below.refl _ _).onAlloc (.cells #[.int .i64 x.a, .int .i64 m, .int .i64 x.s, .int .i64 (x.a + m), .int .i64 (x.n - m), .int .i64 (x.s + m)] 33)))
        have HL8 := Lib.hid (Rd.lit w8 #[.int .i64 x.a, .int .i64 m, .int .i64 x.s, .int .i64 (x.a + m), .int .i64 (x.n - m), .int .i64 (x.s + m)] [x.fst m, x.snd m] _ rfl rfl (by simp)).source
        have htk : (l.take k).length ≤ 20 := by simp; omega
        have hdl : (l.drop (k + 1)).length ≤ 20 := by simp; omega
        clear hb8 ho8
        go_upto_region 18 with (at_builtin; refine wpList_append_xs _ rfl (.tmp 93) (.tmp 113) 22 rfl (w7).heap.size 33 i0 (.agg #[.int .i64 0, .int .i64 0, .int .i64 0]) 3 24 Try.underlying22 hi hz0 hz1 hz2 rfl (by decide) _ _ _ rfl HO8.out _ _ _ _ rfl HL8.out (by first | omega | (simp only [List.length_nil, List.length_append, List.length_cons]; omega)) (by first | (simp only [maxLen]; omega) | (simp only [maxLen, List.length_nil, List.length_append, List.length_cons]; omega)) (by first | omega | (simp only [World.size_alloc]; omega)) ?_; intro v1 w1 hown1 hgrow1 hwhere1; skip)
        have hB9 := (hB8.onAlloc _).onGrow hgrow1 (fun j hj => Nat.le_trans hB7.size (HO8.out.lt j hj).1)
        have HO3 := Lib.hid ((HO3.out.keep ((Below.refl _ _).onAlloc _)).other hgrow1 (sepOf HLT.out (HO8.out.lt)))
        have HO9 := Lib.hid hown1
        have hsz9 := hgrow1.size
        simp only [World.size_alloc] at hsz9
        have HS9 : Hid (World.source w1 3 (some ⟨b, o, none⟩) 0 []) := (Lib.hid ⟨rfl, fun u hu => by simp at hu, .inr ⟨_, rfl, fun j u hu => by simp at hu⟩⟩)
        clear hown1 hgrow1 hwhere1 y1 y2 y3
        go_wp2_with (at_builtin; refine wpList_append_xs _ rfl (.tmp 116) (.tmp 120) 22 rfl (w7).heap.size 33 i0 (.agg #[.int .i64 0, .int .i64 0, .int .i64 0]) 3 24 Try.underlying22 hi hz0 hz1 hz2 rfl (by decide) _ _ _ rfl HO9.out _ _ _ _ rfl HS9.out (by first | omega | (simp only [List.length_nil, List.length_append, List.length_cons]; omega)) (by first | (simp only [maxLen]; omega) | (simp only [maxLen, List.length_nil, List.length_append, List.length_cons]; omega)) (by first | omega | (simp only [World.size_alloc]; omega)) ?_; intro v1 w1 hown1 hgrow1 hwhere1; skip)
        have hB10 := hB9.onGrow hgrow1 (fun j hj => Nat.le_trans hB7.size (World.ownsRow.lt HO9.out j hj).1)
        have HO3 := Lib.hid (HO3.out.other hgrow1 (sepOf HLT.out (World.ownsRow.lt HO9.out)))
        have ho10 : OwnE w1 (w7).heap.size v1 (l.take k ++ ([x.fst m, x.snd m] ++ l.drop (k + 1))) := by
          unfold OwnE
          (rw [HLK.out.2, List.append_nil]; rw [cellsL_append, List.length_append]; simpa using hown1)
        obtain ⟨a10, c10, rfl, hr10⟩ := ho10.rd (by simp; omega)
        clear hown1 hgrow1 hwhere1 HO9 HS9 hB9 ho10
        refine (join_yes (l.take k ++ ([x.fst m, x.snd m] ++ l.drop (k + 1))) _ _ _ hr10 (wfL_of_ok (validB_ok DV2.out)) (by simp; omega) DV2.out).mono ?_
        rintro e w11 ⟨v11, rfl, ho11, hb11⟩
        rw [DJ.out] at ho11
        have hB11 := hB10.on hb11
        obtain ⟨a11, c11, rfl, hr11⟩ := ho11.rd (by omega)
        obtain ⟨a12, c12, e12, hr12⟩ := (HO3.out.keep hb11).rd (by omega)
        simp only [Value.slice.injEq] at e12
        rw [← e12.1] at hr12
        clear e12 ho11 HO3 hb11 hr10 hB10
        go_wp2_with fail
        refine (same_is (joinL l) (joinL l) _ _ _ _ true _ (sameB_refl _) hr11 hr12).mono ?_
        rintro e w13 ⟨rfl, hb13⟩
        have hB13 := hB11.on hb13
        go_wp2_with fail
        go_ret
        exact ⟨ret_bool (by simp), hB13⟩
      · have HDR := Lib.hid (rfl : l.drop (k + 1) = l.drop (k + 1))
        go_wp2_with fail
        refine (copied_n (l.take k) k (by simp; omega) _ _ _ ((hr0.out.keep hB7).take k) (by simp; omega)).mono ?_
        rintro e w8 ⟨v8, rfl, ho8, hb8⟩
        have y1 := hb8.keep y1
        have y2 := hb8.keep y2
        have y3 := hb8.keep y3
        have hB8 := hB7.on hb8
        have hsz8 := hb8.size
        have HO3 := Lib.hid (HO3.out.keep hb8)
        have HO8 := Lib.hid (ho8.keep ((Below.refl _ _).onAlloc (.cells #[.int .i64 x.a, .int .i64 m, .int .i64 x.s, .int .i64 (x.a + m), .int .i64 (x.n - m), .int .i64 (x.s + m)] 33)))
        have HL8 := Lib.hid (Rd.lit w8 #[.int .i64 x.a, .int .i64 m, .int .i64 x.s, .int .i64 (x.a + m), .int .i64 (x.n - m), .int .i64 (x.s + m)] [x.fst m, x.snd m] _ rfl rfl (by simp)).source
        have htk : (l.take k).length ≤ 20 := by simp; omega
        have hdl : (l.drop (k + 1)).length ≤ 20 := by simp; omega
        clear hb8 ho8
        go_upto_region 18 with (at_builtin; refine wpList_append_xs _ rfl (.tmp 93) (.tmp 113) 22 rfl (w7).heap.size 33 i0 (.agg #[.int .i64 0, .int .i64 0, .int .i64 0]) 3 24 Try.underlying22 hi hz0 hz1 hz2 rfl (by decide) _ _ _ rfl HO8.out _ _ _ _ rfl HL8.out (by first | omega | (simp only [List.length_nil, List.length_append, List.length_cons]; omega)) (by first | (simp only [maxLen]; omega) | (simp only [maxLen, List.length_nil, List.length_append, List.length_cons]; omega)) (by first | omega | (simp only [World.size_alloc]; omega)) ?_; intro v1 w1 hown1 hgrow1 hwhere1; skip)
        have hB9 := (hB8.onAlloc _).onGrow hgrow1 (fun j hj => Nat.le_trans hB7.size (HO8.out.lt j hj).1)
        have HO3 := Lib.hid ((HO3.out.keep ((Below.refl _ _).onAlloc _)).other hgrow1 (sepOf HLT.out (HO8.out.lt)))
        have HO9 := Lib.hid hown1
        have hsz9 := hgrow1.size
        simp only [World.size_alloc] at hsz9
        have HS9 : Hid (World.source w1 3 (some ⟨b, o + (k + 1) * 3, none⟩) (l.length - (k + 1)) (cellsL (l.drop (k + 1)))) := (Lib.hid (by have h := ((hr0.out.keep hB9).drop (k + 1)).source; rw [List.length_drop] at h; exact h))
        clear hown1 hgrow1 hwhere1 y1 y2 y3
        go_wp2_with (at_builtin; refine wpList_append_xs _ rfl (.tmp 116) (.tmp 120) 22 rfl (w7).heap.size 33 i0 (.agg #[.int .i64 0, .int .i64 0, .int .i64 0]) 3 24 Try.underlying22 hi hz0 hz1 hz2 rfl (by decide) _ _ _ rfl HO9.out _ _ _ _ rfl HS9.out (by first | omega | (simp only [List.length_nil, List.length_append, List.length_cons]; omega)) (by first | (simp only [maxLen]; omega) | (simp only [maxLen, List.length_nil, List.length_append, List.length_cons]; omega)) (by first | omega | (simp only [World.size_alloc]; omega)) ?_; intro v1 w1 hown1 hgrow1 hwhere1; skip)
        have hB10 := hB9.onGrow hgrow1 (fun j hj => Nat.le_trans hB7.size (World.ownsRow.lt HO9.out j hj).1)
        have HO3 := Lib.hid (HO3.out.other hgrow1 (sepOf HLT.out (World.ownsRow.lt HO9.out)))
        have ho10 : OwnE w1 (w7).heap.size v1 (l.take k ++ ([x.fst m, x.snd m] ++ l.drop (k + 1))) := by
          unfold OwnE
          (rw [cellsL_append, cellsL_append, List.length_append, List.length_append, ← List.append_assoc, ← Nat.add_assoc, List.length_drop]; exact hown1)
        obtain ⟨a10, c10, rfl, hr10⟩ := ho10.rd (by simp; omega)
        clear hown1 hgrow1 hwhere1 HO9 HS9 hB9 ho10
        refine (join_yes (l.take k ++ ([x.fst m, x.snd m] ++ l.drop (k + 1))) _ _ _ hr10 (wfL_of_ok (validB_ok DV2.out)) (by simp; omega) DV2.out).mono ?_
        rintro e w11 ⟨v11, rfl, ho11, hb11⟩
        rw [DJ.out] at ho11
        have hB11 := hB10.on hb11
        obtain ⟨a11, c11, rfl, hr11⟩ := ho11.rd (by omega)
        obtain ⟨a12, c12, e12, hr12⟩ := (HO3.out.keep hb11).rd (by omega)
        simp only [Value.slice.injEq] at e12
        rw [← e12.1] at hr12
        clear e12 ho11 HO3 hb11 hr10 hB10
        go_wp2_with fail
        refine (same_is (joinL l) (joinL l) _ _ _ _ true _ (sameB_refl _) hr11 hr12).mono ?_
        rintro e w13 ⟨rfl, hb13⟩
        have hB13 := hB11.on hb13
        go_wp2_with fail
        go_ret
        exact ⟨ret_bool (by simp), hB13⟩
  · have hdx : decide (x.n < 65536) = false := by simpa using hxn
    have HLT := Lib.hid (fun j hj => (HO3.out.lt j hj).2)
    clear hxn hr3 hr6
    by_cases hm : m = 0
    · have hmb : (m == 0) = true := beq_iff_eq.2 hm
      clear hm
      go_wp2_with fail
      go_ret
      exact ⟨rfl, hB7⟩
    · have hmb : (m == 0) = false := beq_eq_false_iff_ne.2 hm
      have hm2 : 0 < m := by omega
      have DV2 := Lib.hid (DV.out hm2)
      clear hm
      by_cases hck : c = k + 1
      · subst hck
        have HLK : Hid (l.length - (k + 1) = 0 ∧ l.drop (k + 1) = []) := Lib.hid ⟨by omega, List.drop_eq_nil_of_le (by omega)⟩
        have HDR := Lib.hid (rfl : l.drop (k + 1) = l.drop (k + 1))
        go_wp2_with fail
        refine (copied_n (l.take k) k (by simp; omega) _ _ _ ((hr0.out.keep hB7).take k) (by simp; omega)).mono ?_
        rintro e w8 ⟨v8, rfl, ho8, hb8⟩
        have y1 := hb8.keep y1
        have y2 := hb8.keep y2
        have y3 := hb8.keep y3
        have hB8 := hB7.on hb8
        have hsz8 := hb8.size
        have HO3 := Lib.hid (HO3.out.keep hb8)
        have HO8 := Lib.hid (ho8.keep ((Below.refl _ _).onAlloc (.cells #[.int .i64 x.a, .int .i64 m, .int .i64 x.s, .int .i64 (x.a + m), .int .i64 (x.n - m), .int .i64 (x.s + m)] 33)))
        have HL8 := Lib.hid (Rd.lit w8 #[.int .i64 x.a, .int .i64 m, .int .i64 x.s, .int .i64 (x.a + m), .int .i64 (x.n - m), .int .i64 (x.s + m)] [x.fst m, x.snd m] _ rfl rfl (by simp)).source
        have htk : (l.take k).length ≤ 20 := by simp; omega
        have hdl : (l.drop (k + 1)).length ≤ 20 := by simp; omega
        clear hb8 ho8
        go_upto_region 18 with (at_builtin; refine wpList_append_xs _ rfl (.tmp 93) (.tmp 113) 22 rfl (w6).heap.size 33 i0 (.agg #[.int .i64 0, .int .i64 0, .int .i64 0]) 3 24 Try.underlying22 hi hz0 hz1 hz2 rfl (by decide) _ _ _ rfl HO8.out _ _ _ _ rfl HL8.out (by first | omega | (simp only [List.length_nil, List.length_append, List.length_cons]; omega)) (by first | (simp only [maxLen]; omega) | (simp only [maxLen, List.length_nil, List.length_append, List.length_cons]; omega)) (by first | omega | (simp only [World.size_alloc]; omega)) ?_; intro v1 w1 hown1 hgrow1 hwhere1; skip)
        have hB9 := (hB8.onAlloc _).onGrow hgrow1 (fun j hj => Nat.le_trans hB7.size (HO8.out.lt j hj).1)
        have HO3 := Lib.hid ((HO3.out.keep ((Below.refl _ _).onAlloc _)).other hgrow1 (sepOf HLT.out (HO8.out.lt)))
        have HO9 := Lib.hid hown1
        have hsz9 := hgrow1.size
        simp only [World.size_alloc] at hsz9
        have HS9 : Hid (World.source w1 3 (some ⟨b, o, none⟩) 0 []) := (Lib.hid ⟨rfl, fun u hu => by simp at hu, .inr ⟨_, rfl, fun j u hu => by simp at hu⟩⟩)
        clear hown1 hgrow1 hwhere1 y1 y2 y3
        go_wp2_with (at_builtin; refine wpList_append_xs _ rfl (.tmp 116) (.tmp 120) 22 rfl (w6).heap.size 33 i0 (.agg #[.int .i64 0, .int .i64 0, .int .i64 0]) 3 24 Try.underlying22 hi hz0 hz1 hz2 rfl (by decide) _ _ _ rfl HO9.out _ _ _ _ rfl HS9.out (by first | omega | (simp only [List.length_nil, List.length_append, List.length_cons]; omega)) (by first | (simp only [maxLen]; omega) | (simp only [maxLen, List.length_nil, List.length_append, List.length_cons]; omega)) (by first | omega | (simp only [World.size_alloc]; omega)) ?_; intro v1 w1 hown1 hgrow1 hwhere1; skip)
        have hB10 := hB9.onGrow hgrow1 (fun j hj => Nat.le_trans hB7.size (World.ownsRow.lt HO9.out j hj).1)
        have HO3 := Lib.hid (HO3.out.other hgrow1 (sepOf HLT.out (World.ownsRow.lt HO9.out)))
        have ho10 : OwnE w1 (w6).heap.size v1 (l.take k ++ ([x.fst m, x.snd m] ++ l.drop (k + 1))) := by
          unfold OwnE
          (rw [HLK.out.2, List.append_nil]; rw [cellsL_append, List.length_append]; simpa using hown1)
        obtain ⟨a10, c10, rfl, hr10⟩ := ho10.rd (by simp; omega)
        clear hown1 hgrow1 hwhere1 HO9 HS9 hB9 ho10
        refine (join_yes (l.take k ++ ([x.fst m, x.snd m] ++ l.drop (k + 1))) _ _ _ hr10 (wfL_of_ok (validB_ok DV2.out)) (by simp; omega) DV2.out).mono ?_
        rintro e w11 ⟨v11, rfl, ho11, hb11⟩
        rw [DJ.out] at ho11
        have hB11 := hB10.on hb11
        obtain ⟨a11, c11, rfl, hr11⟩ := ho11.rd (by omega)
        obtain ⟨a12, c12, e12, hr12⟩ := (HO3.out.keep hb11).rd (by omega)
        simp only [Value.slice.injEq] at e12
        rw [← e12.1] at hr12
        clear e12 ho11 HO3 hb11 hr10 hB10
        go_wp2_with fail
        refine (same_is (joinL l) (joinL l) _ _ _ _ true _ (sameB_refl _) hr11 hr12).mono ?_
        rintro e w13 ⟨rfl, hb13⟩
        have hB13 := hB11.on hb13
        go_wp2_with fail
        go_ret
        exact ⟨ret_bool (by simp), hB13⟩
      · have HDR := Lib.hid (rfl : l.drop (k + 1) = l.drop (k + 1))
        go_wp2_with fail
        refine (copied_n (l.take k) k (by simp; omega) _ _ _ ((hr0.out.keep hB7).take k) (by simp; omega)).mono ?_
        rintro e w8 ⟨v8, rfl, ho8, hb8⟩
        have y1 := hb8.keep y1
        have y2 := hb8.keep y2
        have y3 := hb8.keep y3
        have hB8 := hB7.on hb8
        have hsz8 := hb8.size
        have HO3 := Lib.hid (HO3.out.keep hb8)
        have HO8 := Lib.hid (ho8.keep ((Below.refl _ _).onAlloc (.cells #[.int .i64 x.a, .int .i64 m, .int .i64 x.s, .int .i64 (x.a + m), .int .i64 (x.n - m), .int .i64 (x.s + m)] 33)))
        have HL8 := Lib.hid (Rd.lit w8 #[.int .i64 x.a, .int .i64 m, .int .i64 x.s, .int .i64 (x.a + m), .int .i64 (x.n - m), .int .i64 (x.s + m)] [x.fst m, x.snd m] _ rfl rfl (by simp)).source
        have htk : (l.take k).length ≤ 20 := by simp; omega
        have hdl : (l.drop (k + 1)).length ≤ 20 := by simp; omega
        clear hb8 ho8
        go_upto_region 18 with (at_builtin; refine wpList_append_xs _ rfl (.tmp 93) (.tmp 113) 22 rfl (w6).heap.size 33 i0 (.agg #[.int .i64 0, .int .i64 0, .int .i64 0]) 3 24 Try.underlying22 hi hz0 hz1 hz2 rfl (by decide) _ _ _ rfl HO8.out _ _ _ _ rfl HL8.out (by first | omega | (simp only [List.length_nil, List.length_append, List.length_cons]; omega)) (by first | (simp only [maxLen]; omega) | (simp only [maxLen, List.length_nil, List.length_append, List.length_cons]; omega)) (by first | omega | (simp only [World.size_alloc]; omega)) ?_; intro v1 w1 hown1 hgrow1 hwhere1; skip)
        have hB9 := (hB8.onAlloc _).onGrow hgrow1 (fun j hj => Nat.le_trans hB7.size (HO8.out.lt j hj).1)
        have HO3 := Lib.hid ((HO3.out.keep ((Below.refl _ _).onAlloc _)).other hgrow1 (sepOf HLT.out (HO8.out.lt)))
        have HO9 := Lib.hid hown1
        have hsz9 := hgrow1.size
        simp only [World.size_alloc] at hsz9
        have HS9 : Hid (World.source w1 3 (some ⟨b, o + (k + 1) * 3, none⟩) (l.length - (k + 1)) (cellsL (l.drop (k + 1)))) := (Lib.hid (by have h := ((hr0.out.keep hB9).drop (k + 1)).source; rw [List.length_drop] at h; exact h))
        clear hown1 hgrow1 hwhere1 y1 y2 y3
        go_wp2_with (at_builtin; refine wpList_append_xs _ rfl (.tmp 116) (.tmp 120) 22 rfl (w6).heap.size 33 i0 (.agg #[.int .i64 0, .int .i64 0, .int .i64 0]) 3 24 Try.underlying22 hi hz0 hz1 hz2 rfl (by decide) _ _ _ rfl HO9.out _ _ _ _ rfl HS9.out (by first | omega | (simp only [List.length_nil, List.length_append, List.length_cons]; omega)) (by first | (simp only [maxLen]; omega) | (simp only [maxLen, List.length_nil, List.length_append, List.length_cons]; omega)) (by first | omega | (simp only [World.size_alloc]; omega)) ?_; intro v1 w1 hown1 hgrow1 hwhere1; skip)
        have hB10 := hB9.onGrow hgrow1 (fun j hj => Nat.le_trans hB7.size (World.ownsRow.lt HO9.out j hj).1)
        have HO3 := Lib.hid (HO3.out.other hgrow1 (sepOf HLT.out (World.ownsRow.lt HO9.out)))
        have ho10 : OwnE w1 (w6).heap.size v1 (l.take k ++ ([x.fst m, x.snd m] ++ l.drop (k + 1))) := by
          unfold OwnE
          (rw [cellsL_append, cellsL_append, List.length_append, List.length_append, ← List.append_assoc, ← Nat.add_assoc, List.length_drop]; exact hown1)
        obtain ⟨a10, c10, rfl, hr10⟩ := ho10.rd (by simp; omega)
        clear hown1 hgrow1 hwhere1 HO9 HS9 hB9 ho10
        refine (join_yes (l.take k ++ ([x.fst m, x.snd m] ++ l.drop (k + 1))) _ _ _ hr10 (wfL_of_ok (validB_ok DV2.out)) (by simp; omega) DV2.out).mono ?_
        rintro e w11 ⟨v11, rfl, ho11, hb11⟩
        rw [DJ.out] at ho11
        have hB11 := hB10.on hb11
        obtain ⟨a11, c11, rfl, hr11⟩ := ho11.rd (by omega)
        obtain ⟨a12, c12, e12, hr12⟩ := (HO3.out.keep hb11).rd (by omega)
        simp only [Value.slice.injEq] at e12
        rw [← e12.1] at hr12
        clear e12 ho11 HO3 hb11 hr10 hB10
        go_wp2_with fail
        refine (same_is (joinL l) (joinL l) _ _ _ _ true _ (sameB_refl _) hr11 hr12).mono ?_
        rintro e w13 ⟨rfl, hb13⟩
        have hB13 := hB11.on hb13
        go_wp2_with fail
        go_ret
        exact ⟨ret_bool (by simp), hB13⟩

theorem law_unique (l : List E) (i j : Int) (a : Option Addr) (c : Nat) (w : World) (hl : l.length ≤ 9223372036854775807 ∧ l.length ≤ c ∧ c ≤ 9223372036854775807) (hr : l.length ≤ 46912496118443 → Rd w a l) (hw : wfL l)
    (bi : 0 ≤ i ∧ i ≤ 65535) (bj : 0 ≤ j ∧ j ≤ 65535) :
    Calls Try.prog 4 #[.slice a l.length c, .int .u16 i, .int .u16 j] w fun e w' => e = .returned (.bool true) ∧ Below w.heap.size w w' := by
  by_cases h : l.length = 0 ∨ 20 < l.length ∨ validB l = false
  · exact unique_early l i j a c w hl.1 hr hw h
  · have h1 : l.length ≠ 0 := fun e => h (.inl e)
    have h2 : ¬ 20 < l.length := fun e => h (.inr (.inl e))
    have h3 : validB l = true := by
      cases hv : validB l with
      | true => rfl
      | false => exact absurd (.inr (.inr hv)) h
    exact unique_main l i j a c w hl.2.1 hl.2.2 (hr (by omega)) hw (by omega) (by omega) h3 bi bj
end Go.Proofs.Ytcalianponiioaa
