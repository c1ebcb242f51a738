/-
  The reference's entries: Put, Seal, Decode, Encode.
  Conditions: as each theorem says.
-/
import Derived.Test.YtbiecglooagmmaaScE
import Derived.Deep.CutRange
namespace Go.Proofs.Ytbiecglooagmmaa
set_option linter.unusedSimpArgs false
set_option linter.unusedVariables false
set_option maxRecDepth 100000
open Go.RowKit

theorem snewY (W : World) (n : Nat) (hn : n = W.heap.size) (x : Value) (t : TypeId) : ∀ j u, ([x] : List Value)[j]? = some u → (W.alloc (.cells #[x] t)).cell? ((⟨n, 0, none⟩ : Addr).add j) = some u := by
  subst hn
  intro j u hj
  cases j with
  | zero => simp at hj; subst hj; simp [Addr.add]
  | succ j => simp at hj
set_option maxHeartbeats 4000000 in
theorem rput_any (n k : Nat) (l : List UInt8) (a : Option Addr) (c : Nat) (w : World) (hr : RdY w a l) (hl : l.length ≤ 1000) (hn : n < 18446744073709551616) (hk : k ≤ 8) :
    Calls Try.prog 39 #[.slice a l.length c, .int .u64 n, .int .i64 k] w fun e w' => ∃ v, e = .returned v ∧ OwnY w' w.heap.size v (l ++ putY k n) ∧ Below w.heap.size w w' := by
  obtain ⟨i0, hi, hz0, hz1, hz2⟩ := info_parts infoY
  have HO := Lib.hid (OwnY.empty w w.heap.size (Nat.le_refl _))
  have hka := (Below.refl w.heap.size w).onAlloc (.cells #[] 5)
  have HKA := Lib.hid hka
  have HSS := Lib.hid ((hr.keep hka)).source
  clear hka
  go_enter Try.func39, Try.ntmps39
  go_wp2_with (at_builtin; refine wpList_append_xs _ rfl _ _ 36 rfl w.heap.size 5 i0 (.int .u8 0) 1 1 Try.underlying36 hi hz0 hz1 hz2 rfl (by decide) _ _ _ rfl HO.out _ _ _ _ rfl HSS.out (by simp; omega) (by simp [maxLen]; omega) (by simp) ?_; intro v1 w3 hown1 hgrow1 hwhere1)
  have HB3 := Lib.hid (HKA.out.onGrow hgrow1 fun j hj => (HO.out.lt j hj).1)
  have HO3 := Lib.hid (OwnY.append (l := []) hown1 (by simp))
  clear hown1 hgrow1 hwhere1 HKA HO HSS
  go_loopw [0, 7] (fun o x wr => ∃ i : Nat, i ≤ k ∧ x = .int .i64 i ∧ OwnY wr w.heap.size o (l ++ putY i n) ∧ Below w.heap.size w wr) (fun _ x _ => k - (intOf x).toNat)
  case atStart => exact ⟨0, by omega, rfl, by rw [show putY 0 n = [] from rfl, List.append_nil]; exact HO3.out, HB3.out⟩
  case round =>
    obtain ⟨i, hik, rfl, ho, hB⟩ := hrel
    have HO := Lib.hid ho
    have hpl := putY_len i n
    clear ho
    by_cases hlt : i < k
    · have hp2 : (2 : Nat) ^ (8 * i) = 256 ^ i := by rw [Nat.pow_mul]
      have HS := Lib.hid (putY_snoc i n)
      have HV : Hid (Value.int .u8 ((n : Int) / 2 ^ (8 * i) % 256) = byV (n / 256 ^ i % 256).toUInt8) := Lib.hid (by
        show Value.int .u8 _ = Value.int .u8 _
        rw [byte_back, ← hp2]
        push_cast
        rfl)
      clear hp2
      have hi8 : (i : Int) ≤ 7 := by omega
      have hi0 : (0 : Int) ≤ i := by omega
      go_wp2_with (at_builtin; refine wpList_append_x _ rfl _ _ 36 rfl w.heap.size 5 i0 (.int .u8 0) 1 1 Try.underlying36 hi hz0 hz1 hz2 rfl (by decide) _ _ _ rfl (World.ownsRow.alloc HO.out _) ⟨wr.heap.size, 0, none⟩ 1 1 [_] rfl rfl (snewY _ _ rfl _ _) (by intro u hu; simp at hu; subst hu; rfl) (by simp; omega) (by simp [maxLen]; omega) (by have h9 := hB.size; simp only [World.size_alloc]; omega) ?_; intro v1 w2 hown1 hgrow1 hwhere1)
      rw [HV.out] at hown1
      have ho := OwnY.append (r := [(n / 256 ^ i % 256).toUInt8]) hown1 rfl
      rw [List.append_assoc, ← HS.out] at ho
      have HB2 := Lib.hid ((hB.onAlloc _).onGrow hgrow1 fun j hj => (HO.out.lt j hj).1)
      have HO2 := Lib.hid ho
      clear hown1 hgrow1 hwhere1 ho
      go_wp2
      go_roundw
      case rel => exact ⟨i + 1, by omega, by go_num, HO2.out, HB2.out⟩
      case measure => simp [intOf]; omega
    · obtain rfl : i = k := by omega
      go_wp2_with fail
      go_ret
      exact ⟨_, rfl, HO.out, hB⟩
set_option maxHeartbeats 4000000 in
theorem rseal_any (l : List UInt8) (a : Option Addr) (c : Nat) (w : World) (hr : RdY w a l) (hl : l.length ≤ 1000) :
    Calls Try.prog 29 #[.slice a l.length c] w fun e w' => ∃ v, e = .returned v ∧ OwnY w' w.heap.size v (sealP l) ∧ Below w.heap.size w w' := by
  obtain ⟨q1, q2⟩ := sumL_eq l
  have HP := Lib.hid (rput_any (crcN l) 8 l a c w hr hl q2 (by omega))
  have HS := Lib.hid (rsum_any l a c w hr)
  rw [q1] at HS
  unfold sealP
  clear q1 hr
  go_enter Try.func29, Try.ntmps29
  go_wp2_with fail
  refine HS.out.mono ?_
  rintro e w1 ⟨rfl, rfl⟩
  go_wp2_with fail
  refine HP.out.mono ?_
  rintro e w1 ⟨v, rfl, ho, hb⟩
  have HO := Lib.hid ho
  have HB := Lib.hid hb
  clear ho hb
  go_wp2_with fail
  go_ret
  exact ⟨_, rfl, HO.out, HB.out⟩
theorem RdY.sconv {w : World} {a : Option Addr} {l : List UInt8} {c : Nat} (h : RdY w a l) (h0 : 0 < l.length) :
    (convert 36 9 (.slice a l.length c)).run Try.prog w = .ok (.string ⟨l.toArray⟩) w := by
  obtain ⟨b, o, rfl, hat⟩ := h.at h0
  refine run_convert_bytes_back w 36 9 5 ⟨b, o, Option.none⟩ c l Try.underlying36 Try.underlying5 Try.underlying9 fun j hj => ?_
  have := hat j _ (List.getElem?_eq_getElem hj)
  by_cases hj0 : j = 0
  · subst hj0; simpa [Addr.add] using this
  · simpa [Addr.add, hj0] using this
theorem sealP_len (l : List UInt8) : (sealP l).length = l.length + 8 := by unfold sealP; rw [List.length_append, putY_len]
theorem seal_eq {l : List UInt8} (h : l.length = 37) : sealP (l.take 29) = l ↔ crcN (l.take 29) = getL (l.drop 29) := by
  have hd : (l.drop 29).length = 8 := by rw [List.length_drop]; omega
  have hq := (sumL_eq (l.take 29)).2
  have hp := putY_inj (n := crcN (l.take 29)) hd (by omega)
  constructor
  · intro e
    refine (hp.1 ?_).symm
    have h2 := congrArg (List.drop 29) e
    unfold sealP at h2
    rw [List.drop_left' (by rw [List.length_take]; omega)] at h2
    exact h2
  · intro e
    unfold sealP
    rw [hp.2 e.symm, List.take_append_drop]
def AlE (w1 : World) (x0 x1 x2 : Value) (p : Value) (wx : World) : Prop := p = .pointer (some ⟨w1.heap.size, 0, none⟩) ∧ wx = (w1.alloc (.cells #[x0, x1, x2, .int .u8 0, .int .u8 0, .int .u8 0, .int .u8 0, .int .u8 0, .int .u8 0, .int .u8 0, .int .u8 0] 41)).drew
set_option maxHeartbeats 8000000 in
theorem rdecode_any (l : List UInt8) (a : Option Addr) (c : Nat) (w : World) (hr : RdY w a l) (hc : l.length ≤ c) :
    Calls Try.prog 16 #[.slice a l.length c] w (DecP l w) := by
  have hlen := hr.1
  have HB0 := Lib.hid (fun C => (Below.refl w.heap.size w).onAlloc (.cells C 41))
  by_cases h37 : l.length = 37
  · obtain ⟨b, o, rfl, hat⟩ := hr.at (by omega)
    have HT := Lib.hid (hr.take 29)
    have ht : (l.take 29).length = 29 := by rw [List.length_take]; omega
    have HS := Lib.hid (fun W h => rseal_any (l.take 29) (some ⟨b, o, none⟩) c W h (by omega))
    rw [ht] at HS
    have hl37 : (l.length : Int) = 37 := by omega
    have HCV : Hid (∀ W, RdY W (some ⟨b, o, none⟩) l → (convert 36 9 (.slice (some ⟨b, o, none⟩) 37 c)).run Try.prog W = .ok (.string ⟨l.toArray⟩) W) := Lib.hid fun W h => by
      have := h.sconv (c := c) (by omega)
      rw [h37] at this
      exact this
    have HCS : Hid (∀ W a' c', RdY W a' (sealP (l.take 29)) → (convert 36 9 (.slice a' 37 c')).run Try.prog W = .ok (.string ⟨(sealP (l.take 29)).toArray⟩) W) := Lib.hid fun W a' c' h => by
      have := h.sconv (c := c') (by rw [sealP_len]; omega)
      rw [sealP_len, ht] at this
      exact this
    have HSL := Lib.hid (show (sealP (l.take 29)).length = 37 by rw [sealP_len, ht])
    have HSE := Lib.hid (seal_eq h37)
    have HC0 := Lib.hid (CE.new w 41 (.int .i64 0) (.int .i64 0) (.int .u64 0) (.int .u8 0) (.int .u8 0) (.int .u8 0) (.int .u8 0) (.int .u8 0) (.int .u8 0) (.int .u8 0) (.int .u8 0))
    rw [h37]
    have HK := Lib.hid hr
    obtain ⟨sl, hsl⟩ : ∃ s, sealP (l.take 29) = s := ⟨_, rfl⟩
    rw [hsl] at HS HCS HSL HSE
    have hcc : (37 : Int) ≤ c := by omega
    have hi5 : (5 : Int) ≤ c := by omega
    have hi13 : (13 : Int) ≤ c := by omega
    have hi21 : (21 : Int) ≤ c := by omega
    have hi29 : (29 : Int) ≤ c := by omega
    have hn1 : ¬ c = 1 := by omega
    have hn5 : ¬ c = 5 := by omega
    have hn13 : ¬ c = 13 := by omega
    have hn21 : ¬ c = 21 := by omega
    have hn29 : ¬ c = 29 := by omega
    clear hsl
    have HR := Lib.hid hr
    have HAT := Lib.hid hat
    have HTL := Lib.hid ht
    clear hr hat ht
    go_enter Try.func16, Try.ntmps16
    go_wp2_with fail
    have HDD := Lib.hid ((HB0.out cz11).drew)
    refine wp_region_held_drew (S := (fun w' => (convert 36 9 (.slice (some ⟨b, o, none⟩) 37 c)).run Try.prog w' = .ok (.string ⟨l.toArray⟩) w')) (by kernel_rfl) (HCV.out _ (HR.out.keep HDD.out)) (fun hHeld => ?_)
    refine wpAnyH_take (i := 0) (v := ?_) rfl (by kernel_rfl) (by kernel_rfl) (by kernel_rfl) (fun _ _ _ h => h) (Or.inl ⟨by rfl, ?_⟩) (by assumption) ?_
    rotate_left
    · (intro w hSw; (try dsimp only at hSw); go_simp; try with_reducible rfl)
    try simp only [Act.put, List.setIfInBounds_toArray, List.set_cons_zero, List.set_cons_succ]
    refine wpAnyH_take (i := 1) (v := ?_) rfl (by kernel_rfl) (by kernel_rfl) (by kernel_rfl) (fun _ _ _ h => h) (Or.inl ⟨by rfl, ?_⟩) (by assumption) ?_
    rotate_left
    · (intro w hSw; (try dsimp only at hSw); go_simp; try with_reducible rfl)
    try simp only [Act.put, List.setIfInBounds_toArray, List.set_cons_zero, List.set_cons_succ]
    refine wpAnyH_take (i := 4) (v := ?_) rfl (by kernel_rfl) (by kernel_rfl) (by kernel_rfl) (fun _ _ _ h => h) (Or.inl ⟨by rfl, ?_⟩) (by assumption) ?_
    rotate_left
    · (intro w hSw; (try dsimp only at hSw); go_simp; try with_reducible rfl)
    try simp only [Act.put, List.setIfInBounds_toArray, List.set_cons_zero, List.set_cons_succ]
    refine wpAnyH_take (i := 5) (v := ?_) rfl (by kernel_rfl) (by kernel_rfl) (by kernel_rfl) (fun _ _ _ h => h) (Or.inl ⟨by rfl, ?_⟩) (by assumption) ?_
    rotate_left
    · (intro w hSw; (try dsimp only at hSw); go_simp; try with_reducible rfl)
    try simp only [Act.put, List.setIfInBounds_toArray, List.set_cons_zero, List.set_cons_succ]
    refine wpAnyH_ready (rs := [2]) (by kernel_rfl) (by simp) ?_
    refine AllReadyH.cons rfl (fun K hK => ?_) AllReadyH.nil
    go_simp
    refine (HS.out _ (HT.out.keep HDD.out)).mono ?_
    rintro e w1 ⟨v, rfl, ho, hb⟩
    obtain ⟨sa, sc, rfl, _, _, hrs⟩ := ho.rd (by rw [HSL.out]; omega)
    rw [HSL.out] at *
    have HW1 := Lib.hid (HDD.out.on hb)
    have HC1 := Lib.hid ((HC0.out.keep ((Below.refl _ _).drew)).keep hb)
    have hcs := HCS.out _ _ sc hrs
    clear ho hb hrs
    refine hK.out _ _ (HCV.out _ (HR.out.keep HW1.out)) (fun hHeld => ?_)
    clear hK K
    try simp only [Act.put, List.setIfInBounds_toArray, List.set_cons_zero, List.set_cons_succ]
    refine wpAnyH_ready (rs := [3]) (by kernel_rfl) (by simp) ?_
    refine AllReadyH.cons rfl (fun K hK => ?_) AllReadyH.nil
    go_simp
    refine hK.out _ _ (HCV.out _ (HR.out.keep HW1.out)) (fun hHeld => ?_)
    clear hK K
    try simp only [Act.put, List.setIfInBounds_toArray, List.set_cons_zero, List.set_cons_succ]
    refine wpAnyH_take (i := 6) (v := ?_) rfl (by kernel_rfl) (by kernel_rfl) (by kernel_rfl) (fun _ _ _ h => h) (Or.inl ⟨by rfl, ?_⟩) (by assumption) ?_
    rotate_left
    · (intro w hSw; (try dsimp only at hSw); go_simp; try with_reducible rfl)
    try simp only [Act.put, List.setIfInBounds_toArray, List.set_cons_zero, List.set_cons_succ]
    simp only [Act.put, List.getElem_toArray, List.getElem_cons_succ, List.getElem_cons_zero, List.setIfInBounds_toArray, List.set_cons_zero, List.set_cons_succ]
    refine wpAnyH_done (by kernel_rfl) ?_ _
    obtain ⟨q, hq⟩ : ∃ q, (sl == l) = q := ⟨_, rfl⟩
    rw [hq]
    cases q
    · have HE := Lib.hid (dec_sum h37 (fun h => by rw [HSE.out.2 h] at hq; simp at hq))
      clear HCS HCV HS HSE HC0 HB0 HDD HTL HAT HK HT HR hcs hq
      have c0 := HC1.out.c0
      have c1 := HC1.out.c1
      have c2 := HC1.out.c2
      have c3 := HC1.out.c3
      have c4 := HC1.out.c4
      have c5 := HC1.out.c5
      have c6 := HC1.out.c6
      have c7 := HC1.out.c7
      have c8 := HC1.out.c8
      have c9 := HC1.out.c9
      have c10 := HC1.out.c10
      have cf := HC1.out.f
      go_wp2_with fail
      rw [setCell_id HC1.out.c0, setCell_id HC1.out.c1, setCell_id HC1.out.c2, setCell_id HC1.out.c3, setCell_id HC1.out.c4, setCell_id HC1.out.c5, setCell_id HC1.out.c6, setCell_id HC1.out.c7, setCell_id HC1.out.c8, setCell_id HC1.out.c9, setCell_id HC1.out.c10]
      (try simp only [Exit.inBlock, Exit.then])
      refine bodyPost_ret (v := .tuple #[.agg cz11, .int .u64 0, .int .i64 6]) (by first | (rw [sres_cell_tmp2 rfl]; go_simp; done) | (rw [sres_cell_one rfl]; go_simp; done)) rfl ?_
      exact ⟨by rw [HE.out]; rfl, HW1.out⟩
    · have hs := HSE.out.1 (by simpa using hq)
      have HA1 := Lib.hid (fun C => (Below.refl w1.heap.size w1).onAlloc (.cells C 41))
      have hat := HAT.out
      replace HR := Lib.hid (HR.out.keep HW1.out)
      have hr := HR.out
      clear HCS HCV HS HSE HC0 HB0 HDD HTL HAT HK HT hcs hq
      have HE1 := Lib.hid (fun h => dec_bad h37 hs h)
      have HE2 := Lib.hid (fun h => dec_good h37 hs h)
      have HSV := Lib.hid (fun W => revalid_any (decE l) W)
      have HG1 := Lib.hid (fun W h => rget_any ((l.drop 1).take 4) (some ⟨b, o + 1, none⟩) (c - 1) W h (by rw [(hr.mid 1 4 (by omega)).2]; omega))
      have HG2 := Lib.hid (fun W h => rget_any ((l.drop 5).take 8) (some ⟨b, o + 5, none⟩) (c - 5) W h (by rw [(hr.mid 5 8 (by omega)).2]; omega))
      have HG3 := Lib.hid (fun W h => rget_any ((l.drop 21).take 8) (some ⟨b, o + 21, none⟩) (c - 21) W h (by rw [(hr.mid 21 8 (by omega)).2]; omega))
      rw [(hr.mid 1 4 (by omega)).2] at HG1
      rw [(hr.mid 5 8 (by omega)).2] at HG2
      rw [(hr.mid 21 8 (by omega)).2] at HG3
      have HM1 := Lib.hid (hr.mid 1 4 (by omega)).1
      have HM2 := Lib.hid (hr.mid 5 8 (by omega)).1
      have HM3 := Lib.hid (hr.mid 21 8 (by omega)).1
      have l1 := getL_lt ((l.drop 1).take 4)
      have l2 := getL_lt ((l.drop 5).take 8)
      rw [(hr.mid 1 4 (by omega)).2] at l1
      rw [(hr.mid 5 8 (by omega)).2] at l2
      obtain ⟨vv, hvv⟩ : ∃ v, (decE l).ok = v := ⟨_, rfl⟩
      rw [hvv] at HSV HE1 HE2
      obtain ⟨Ev, hEv⟩ : ∃ E, decE l = E := ⟨_, rfl⟩
      have hE2 := hEv
      rw [hEv] at HE2 HSV
      unfold decE at hE2
      subst hE2
      unfold Ent.v at HSV
      clear hEv hvv
      have hcell : ∀ k, k < 37 → w1.cell? ⟨b, o + k, none⟩ = some (byV (l.getD k 0)) := fun k hk => HW1.out.keep (hat k _ (by rw [List.getD_eq_getElem?_getD, List.getElem?_eq_getElem (by omega)]; rfl))
      have k0 : w1.cell? ⟨b, o, none⟩ = _ := hcell 0 (by omega)
      have k13 := hcell 13 (by omega)
      have k14 := hcell 14 (by omega)
      have k15 := hcell 15 (by omega)
      have k16 := hcell 16 (by omega)
      have k17 := hcell 17 (by omega)
      have k18 := hcell 18 (by omega)
      have k19 := hcell 19 (by omega)
      have k20 := hcell 20 (by omega)
      simp only [byV] at k0 k13 k14 k15 k16 k17 k18 k19 k20 HSV
      generalize l.getD 0 0 = e0 at *
      generalize l.getD 13 0 = d0 at *
      generalize l.getD 14 0 = d1 at *
      generalize l.getD 15 0 = d2 at *
      generalize l.getD 16 0 = d3 at *
      generalize l.getD 17 0 = d4 at *
      generalize l.getD 18 0 = d5 at *
      generalize l.getD 19 0 = d6 at *
      generalize l.getD 20 0 = d7 at *
      have m1 : IntKind.i64.wrap ((getL ((l.drop 1).take 4) : Nat) : Int) = ((getL ((l.drop 1).take 4) : Nat) : Int) := IntWalk.i64_in _ (by omega)
      have n1 : ((getL ((l.drop 1).take 4) : Nat) : Int) ≤ 18446744073709551615 := by omega
      have n2 : ((getL ((l.drop 5).take 8) : Nat) : Int) ≤ 18446744073709551615 := by omega
      have me : IntKind.i64.wrap ((e0.toNat : Nat) : Int) = ((e0.toNat : Nat) : Int) := IntWalk.i64_in _ (by have := e0.toNat_lt; omega)
      generalize getL ((l.drop 1).take 4) = y1 at *
      generalize getL ((l.drop 5).take 8) = y2 at *
      generalize getL ((l.drop 21).take 8) = y3 at *
      clear hat hr hs hcell l1 l2
      have hsd : ∀ (w : World) (n : Nat) (a : Addr) (v : Value), (w.drewN n).setCell a v = (w.setCell a v).drewN n := fun _ _ _ _ => rfl
      have HK0 := Lib.hid k0
      have HDa := Lib.hid ((Below.refl w1.heap.size w1).drew)
      have HDz := Lib.hid ((HA1.out cz11).drew)
      have HDe := Lib.hid ((HA1.out #[.int .i64 e0.toNat, .int .i64 y1, .int .u64 y2, .int .u8 0, .int .u8 0, .int .u8 0, .int .u8 0, .int .u8 0, .int .u8 0, .int .u8 0, .int .u8 0]).drew)
      have HKa := Lib.hid (HDa.out.keep k0)
      have HKz := Lib.hid (HDz.out.keep k0)
      have HKe := Lib.hid (HDe.out.keep k0)
      go_upto_region 5 with fail
      go_cut [5] from 19 to 30 (fun p wx => AlE w1 (.int .i64 e0.toNat) (.int .i64 y1) (.int .u64 y2) p wx)
      case first =>
        go_region_held3 (fun w' => w'.cell? ⟨b, o, none⟩ = some (.int .u8 e0.toNat) ∧ Below w1.heap.size w1 w')
          (first
            | with_reducible exact ⟨HKa.out, HDa.out⟩
            | with_reducible exact ⟨HKz.out, HDz.out⟩
            | with_reducible exact ⟨HKe.out, HDe.out⟩)
          (first
            | (go_at_call 30; have hW := (‹_ ∧ Below w1.heap.size w1 _›).2; with_reducible refine (HG1.out _ (HM1.out.keep hW)).mono ?_; rintro e w9 ⟨rfl, rfl⟩)
            | (go_at_call 30; have hW := (‹_ ∧ Below w1.heap.size w1 _›).2; with_reducible refine (HG2.out _ (HM2.out.keep hW)).mono ?_; rintro e w9 ⟨rfl, rfl⟩))
        all_goals
          go_wp2_with fail
          go_meet
          exact ⟨rfl, rfl⟩
      case rest =>
        obtain ⟨rfl, rfl⟩ := hcut
        go_wp2_with fail
        refine wp_loop_rounds 9 ?_
        iterate 9 (rw [rounds_succ]; go_wp2_with fail)
        have HE5 := Lib.hid ((CE.new w1 41 (.int .i64 e0.toNat) (.int .i64 y1) (.int .u64 y2) (.int .u8 d0.toNat) (.int .u8 d1.toNat) (.int .u8 d2.toNat) (.int .u8 d3.toNat) (.int .u8 d4.toNat) (.int .u8 d5.toNat) (.int .u8 d6.toNat) (.int .u8 d7.toNat)).keep (Below.refl _ _).drew)
        have HB5 := Lib.hid ((HA1.out #[.int .i64 e0.toNat, .int .i64 y1, .int .u64 y2, .int .u8 d0.toNat, .int .u8 d1.toNat, .int .u8 d2.toNat, .int .u8 d3.toNat, .int .u8 d4.toNat, .int .u8 d5.toNat, .int .u8 d6.toNat, .int .u8 d7.toNat]).drew)
        refine (HSV.out _).mono ?_
        rintro e w2 ⟨rfl, hb⟩
        have HE6 := Lib.hid (HE5.out.keep hb)
        have HW2 := Lib.hid ((HW1.out.on HB5.out).on hb)
        have HR2 := Lib.hid ((HC1.out.keep HB5.out).keep hb)
        have HM4 := Lib.hid (fun n => ((HM3.out.keep HB5.out).keep hb).drewN n)
        clear hb HE5 HB5 HSV HDa HDz HDe HKa HKz HKe HK0 HM1 HM2 HM3 HG1 HG2 HR HC1 HA1 HW1 k0 k13 k14 k15 k16 k17 k18 k19 k20 m1 n1 n2 me
        cases vv
        · have c0 := HR2.out.c0
          have c1 := HR2.out.c1
          have c2 := HR2.out.c2
          have c3 := HR2.out.c3
          have c4 := HR2.out.c4
          have c5 := HR2.out.c5
          have c6 := HR2.out.c6
          have c7 := HR2.out.c7
          have c8 := HR2.out.c8
          have c9 := HR2.out.c9
          have c10 := HR2.out.c10
          have cf := HR2.out.f
          go_wp2_with fail
          rw [setCell_id HR2.out.c0, setCell_id HR2.out.c1, setCell_id HR2.out.c2, setCell_id HR2.out.c3, setCell_id HR2.out.c4, setCell_id HR2.out.c5, setCell_id HR2.out.c6, setCell_id HR2.out.c7, setCell_id HR2.out.c8, setCell_id HR2.out.c9, setCell_id HR2.out.c10]
          (try simp only [Exit.inBlock, Exit.then])
          refine bodyPost_ret (v := .tuple #[.agg cz11, .int .u64 0, .int .i64 5]) (by first | (rw [sres_cell_tmp2 rfl]; go_simp; done) | (rw [sres_cell_one rfl]; go_simp; done)) rfl ?_
          exact ⟨by rw [HE1.out (by first | rfl | trivial)]; rfl, HW2.out⟩
        · have c0 := HE6.out.c0
          have c1 := HE6.out.c1
          have c2 := HE6.out.c2
          have c3 := HE6.out.c3
          have c4 := HE6.out.c4
          have c5 := HE6.out.c5
          have c6 := HE6.out.c6
          have c7 := HE6.out.c7
          have c8 := HE6.out.c8
          have c9 := HE6.out.c9
          have c10 := HE6.out.c10
          have cf := HE6.out.f
          have g0 := HR2.out.c0
          have g1 := HR2.out.c1
          have g2 := HR2.out.c2
          have g3 := HR2.out.c3
          have g4 := HR2.out.c4
          have g5 := HR2.out.c5
          have g6 := HR2.out.c6
          have g7 := HR2.out.c7
          have g8 := HR2.out.c8
          have g9 := HR2.out.c9
          have g10 := HR2.out.c10
          have gf := HR2.out.f
          go_wp2_with fail
          refine wp_region_drewN_tail 4 (by kernel_rfl) (by kernel_rfl) ?_
          simp only [List.take_succ_cons, List.take_zero, List.drop_succ_cons, List.drop_zero]
          repeat (quiet_step ((go_at_call 30; with_reducible refine (HG3.out _ (HM4.out _)).mono ?_; rintro e w9 ⟨rfl, rfl⟩; exact ⟨rfl, _, rfl⟩)))
          refine wpQuiet_nil ?_
          intro _ hw'
          obtain ⟨nq, hw''⟩ := hw'
          subst hw''
          go_wp2_with fail
          have HJ := Lib.hid ((HR2.out.set (.int .i64 e0.toNat) (.int .i64 y1) (.int .u64 y2) (.int .u8 d0.toNat) (.int .u8 d1.toNat) (.int .u8 d2.toNat) (.int .u8 d3.toNat) (.int .u8 d4.toNat) (.int .u8 d5.toNat) (.int .u8 d6.toNat) (.int .u8 d7.toNat)).keep (below_drewN (Below.refl _ _) nq))
          have HJB := Lib.hid (below_drewN (CE.below HW2.out (Nat.le_refl _) (.int .i64 e0.toNat) (.int .i64 y1) (.int .u64 y2) (.int .u8 d0.toNat) (.int .u8 d1.toNat) (.int .u8 d2.toNat) (.int .u8 d3.toNat) (.int .u8 d4.toNat) (.int .u8 d5.toNat) (.int .u8 d6.toNat) (.int .u8 d7.toNat)) nq)
          show bodyPost _ _ _ _ _ ((setE w2 w.heap.size (.int .i64 e0.toNat) (.int .i64 y1) (.int .u64 y2) (.int .u8 d0.toNat) (.int .u8 d1.toNat) (.int .u8 d2.toNat) (.int .u8 d3.toNat) (.int .u8 d4.toNat) (.int .u8 d5.toNat) (.int .u8 d6.toNat) (.int .u8 d7.toNat)).drewN nq)
          clear g0 g1 g2 g3 g4 g5 g6 g7 g8 g9 g10 gf hsd
          clear c0 c1 c2 c3 c4 c5 c6 c7 c8 c9 c10 cf
          generalize (setE w2 w.heap.size (.int .i64 e0.toNat) (.int .i64 y1) (.int .u64 y2) (.int .u8 d0.toNat) (.int .u8 d1.toNat) (.int .u8 d2.toNat) (.int .u8 d3.toNat) (.int .u8 d4.toNat) (.int .u8 d5.toNat) (.int .u8 d6.toNat) (.int .u8 d7.toNat)).drewN nq = w3 at *
          have c0 := HJ.out.c0
          have c1 := HJ.out.c1
          have c2 := HJ.out.c2
          have c3 := HJ.out.c3
          have c4 := HJ.out.c4
          have c5 := HJ.out.c5
          have c6 := HJ.out.c6
          have c7 := HJ.out.c7
          have c8 := HJ.out.c8
          have c9 := HJ.out.c9
          have c10 := HJ.out.c10
          have cf := HJ.out.f
          (try simp only [Exit.inBlock, Exit.then])
          refine bodyPost_ret (v := .tuple #[.agg #[.int .i64 e0.toNat, .int .i64 y1, .int .u64 y2, .int .u8 d0.toNat, .int .u8 d1.toNat, .int .u8 d2.toNat, .int .u8 d3.toNat, .int .u8 d4.toNat, .int .u8 d5.toNat, .int .u8 d6.toNat, .int .u8 d7.toNat], .int .u64 y3, .int .i64 0]) (by first | (rw [sres_cell_tmp2 rfl]; go_simp; done) | (rw [sres_cell_one rfl]; go_simp; done)) rfl ?_
          exact ⟨by rw [HE2.out (by first | rfl | trivial)], HJB.out⟩
  · have HE := Lib.hid (dec_long h37)
    have hne : ((l.length : Int) == 37) = false := by simp; omega
    unfold DecP
    rw [HE.out]
    go_enter Try.func16, Try.ntmps16
    go_wp2_with fail
    (try simp only [Exit.inBlock, Exit.then])
    refine bodyPost_ret (v := .tuple #[.agg cz11, .int .u64 0, .int .i64 5]) (by first | (rw [sres_cell_tmp2 rfl]; go_simp; done) | (rw [sres_cell_one rfl]; go_simp; done)) rfl ?_
    exact ⟨rfl, HB0.out _⟩
end Go.Proofs.Ytbiecglooagmmaa
