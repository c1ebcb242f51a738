/-
  The reference's Encode, and the sectors of the laws.
  Conditions: as each theorem says.
-/
import Derived.Test.YtbiecglooagmmaaScF
namespace Go.Proofs.Ytbiecglooagmmaa
set_option linter.unusedSimpArgs false
set_option linter.unusedVariables false
set_option maxRecDepth 100000
open Go.RowKit

def dataE (bl ver : Nat) : Ent := ⟨1, bl, ver, 0, 0, 0, 0, 0, 0, 0, 0⟩
theorem dataE_ok {bl ver : Nat} (h1 : bl < 65536) (h2 : 1 ≤ ver) : (dataE bl ver).ok = true := by
  unfold Ent.ok dataE
  simp
  omega
def secL (bl ver t : Nat) : List UInt8 := sealP (encP (dataE bl ver) t)
theorem encP_data (bl ver t : Nat) : encP (dataE bl ver) t = ([1] ++ putY 4 bl ++ putY 8 ver) ++ List.replicate 8 0 ++ putY 8 t := by
  unfold encP dataE Ent.data
  rfl
theorem secL_len (bl ver t : Nat) : (secL bl ver t).length = 37 := by
  unfold secL
  rw [sealP_len, encP_data]
  simp [putY_len]
theorem dec_sec {bl ver t : Nat} (h1 : bl < 65536) (h2 : 1 ≤ ver) (h3 : ver < 18446744073709551616) (h4 : t < 18446744073709551616) : dec (secL bl ver t) = (dataE bl ver, (t : Int), 0) := by
  have hl := secL_len bl ver t
  have hel : (encP (dataE bl ver) t).length = 29 := by rw [encP_data]; simp [putY_len]
  have ht : (secL bl ver t).take 29 = encP (dataE bl ver) t := by
    unfold secL sealP
    exact List.take_left' hel
  have hs : crcN ((secL bl ver t).take 29) = getL ((secL bl ver t).drop 29) := (seal_eq hl).1 (by rw [ht]; rfl)
  have hE : secL bl ver t = [1] ++ (putY 4 bl ++ (putY 8 ver ++ (List.replicate 8 0 ++ (putY 8 t ++ putY 8 (crcN (encP (dataE bl ver) t)))))) := by
    unfold secL sealP
    rw [encP_data]
    simp only [List.append_assoc]
  obtain ⟨A, hA⟩ : ∃ A, A = putY 4 bl := ⟨_, rfl⟩
  obtain ⟨B, hB⟩ : ∃ A, A = putY 8 ver := ⟨_, rfl⟩
  obtain ⟨T, hT⟩ : ∃ A, A = putY 8 t := ⟨_, rfl⟩
  obtain ⟨Z, hZ⟩ : ∃ A, A = putY 8 (crcN (encP (dataE bl ver) t)) := ⟨_, rfl⟩
  have lA : A.length = 4 := by rw [hA, putY_len]
  have lB : B.length = 8 := by rw [hB, putY_len]
  have lT : T.length = 8 := by rw [hT, putY_len]
  rw [← hA, ← hB, ← hT, ← hZ] at hE
  have hg : ∀ j, j < 8 → (secL bl ver t).getD (13 + j) 0 = 0 := by
    intro j hj
    rw [hE, List.getD_eq_getElem?_getD, List.getElem?_append_right (by simp; omega), List.getElem?_append_right (by simp; omega), List.getElem?_append_right (by simp; omega), List.getElem?_append_left (by simp; omega)]
    simp only [List.length_cons, List.length_nil, lA, lB]
    rw [List.getElem?_replicate, if_pos (by omega)]
    rfl
  have hd : decE (secL bl ver t) = dataE bl ver := by
    have e1 : ((secL bl ver t).drop 1).take 4 = A := by
      rw [hE, List.drop_left' (by rfl), List.take_left' lA]
    have e2 : ((secL bl ver t).drop 5).take 8 = B := by
      rw [hE, show (5 : Nat) = 1 + 4 from rfl, ← List.drop_drop, List.drop_left' (by rfl), List.drop_left' lA, List.take_left' lB]
    have e0 : (secL bl ver t).getD 0 0 = 1 := by rw [hE]; rfl
    unfold decE dataE
    rw [e1, e2, e0, hg 0 (by omega), hg 1 (by omega), hg 2 (by omega), hg 3 (by omega), hg 4 (by omega), hg 5 (by omega), hg 6 (by omega), hg 7 (by omega), hA, hB, getL_put, getL_put, Nat.mod_eq_of_lt (by omega), Nat.mod_eq_of_lt (by omega)]
    rfl
  have e3 : ((secL bl ver t).drop 21).take 8 = T := by
    rw [hE, show (21 : Nat) = 1 + (4 + (8 + 8)) from rfl, ← List.drop_drop, List.drop_left' (by rfl), ← List.drop_drop, List.drop_left' lA, ← List.drop_drop, List.drop_left' lB, List.drop_left' (by simp), List.take_left' lT]
  rw [dec_good hl hs (by rw [hd]; exact dataE_ok h1 h2), hd, e3, hT, getL_put, Nat.mod_eq_of_lt (by omega)]
theorem CE.rdY {W : World} {R : Nat} {v0 v1 v2 : Value} (h : CE W R v0 v1 v2 (.int .u8 0) (.int .u8 0) (.int .u8 0) (.int .u8 0) (.int .u8 0) (.int .u8 0) (.int .u8 0) (.int .u8 0)) : RdY W (some ⟨R, 3, none⟩) (List.replicate 8 0) := by
  refine ⟨by simp, .inr ⟨R, 3, rfl, fun k c hk => ?_⟩⟩
  match k with
  | 0 => simp [List.getElem?_replicate] at hk; subst hk; exact h.c3
  | 1 => simp [List.getElem?_replicate] at hk; subst hk; exact h.c4
  | 2 => simp [List.getElem?_replicate] at hk; subst hk; exact h.c5
  | 3 => simp [List.getElem?_replicate] at hk; subst hk; exact h.c6
  | 4 => simp [List.getElem?_replicate] at hk; subst hk; exact h.c7
  | 5 => simp [List.getElem?_replicate] at hk; subst hk; exact h.c8
  | 6 => simp [List.getElem?_replicate] at hk; subst hk; exact h.c9
  | 7 => simp [List.getElem?_replicate] at hk; subst hk; exact h.c10
  | k + 8 => simp [List.getElem?_replicate] at hk
theorem OwnY.one (W : World) (B : Nat) (hB : B ≤ W.heap.size) (x : UInt8) : OwnY (W.alloc (.cells #[byV x] 5)) B (.slice (some ⟨W.heap.size, 0, none⟩) 1 1) [x] :=
  World.ownsRow_lit W #[byV x] 1 hB (by first | decide | simp) rfl
theorem dataE_v (bl ver : Nat) : (dataE bl ver).v = .agg #[.int .i64 1, .int .i64 bl, .int .u64 ver, .int .u8 0, .int .u8 0, .int .u8 0, .int .u8 0, .int .u8 0, .int .u8 0, .int .u8 0, .int .u8 0] := rfl
set_option maxHeartbeats 8000000 in
theorem rencode_any (bl ver t : Nat) (w : World) (h1 : bl < 65536) (h2 : 1 ≤ ver) (h3 : ver < 18446744073709551616) (h4 : t < 18446744073709551616) :
    Calls Try.prog 32 #[.agg #[.int .i64 1, .int .i64 bl, .int .u64 ver, .int .u8 0, .int .u8 0, .int .u8 0, .int .u8 0, .int .u8 0, .int .u8 0, .int .u8 0, .int .u8 0], .int .u64 t] w fun e w' => ∃ v, e = .returned (.tuple #[v, .int .i64 0]) ∧ OwnY w' w.heap.size v (secL bl ver t) ∧ Below w.heap.size w w' := by
  have HC0 := Lib.hid (CE.new w 41 (.int .i64 1) (.int .i64 bl) (.int .u64 ver) (.int .u8 0) (.int .u8 0) (.int .u8 0) (.int .u8 0) (.int .u8 0) (.int .u8 0) (.int .u8 0) (.int .u8 0))
  have HB0 := Lib.hid ((Below.refl w.heap.size w).onAlloc (.cells #[.int .i64 1, .int .i64 bl, .int .u64 ver, .int .u8 0, .int .u8 0, .int .u8 0, .int .u8 0, .int .u8 0, .int .u8 0, .int .u8 0, .int .u8 0] 41))
  have HV := Lib.hid (fun W => revalid_any (dataE bl ver) W)
  rw [dataE_ok h1 h2, dataE_v] at HV
  obtain ⟨i0, hi, hz0, hz1, hz2⟩ := info_parts infoY
  have m1 : IntKind.u64.wrap (bl : Int) = (bl : Int) := wraps_u64 _ (by omega) (by omega)
  have HP1 := Lib.hid (fun a c W h => rput_any bl 4 [1] a c W h (by simp) (by omega) (by omega))
  have HP2 := Lib.hid (fun a c W h => rput_any ver 8 ([1] ++ putY 4 bl) a c W h (by simp [putY_len]) (by omega) (by omega))
  have HP3 := Lib.hid (fun a c W h => rput_any t 8 ([1] ++ putY 4 bl ++ putY 8 ver ++ List.replicate 8 0) a c W h (by simp [putY_len]) (by omega) (by omega))
  have HP4 := Lib.hid (fun a c W h => rseal_any ([1] ++ putY 4 bl ++ putY 8 ver ++ List.replicate 8 0 ++ putY 8 t) a c W h (by simp [putY_len]))
  have HL := Lib.hid (show sealP ([1] ++ putY 4 bl ++ putY 8 ver ++ List.replicate 8 0 ++ putY 8 t) = secL bl ver t by unfold secL; rw [encP_data])
  rw [HL.out] at HP4
  simp only [List.length_append, List.length_cons, List.length_nil, putY_len, List.length_replicate] at HP1 HP2 HP3 HP4
  have hbl : (bl : Int) ≤ 65535 := by omega
  have h3' : (ver : Int) ≤ 18446744073709551615 := by omega
  have h4' : (t : Int) ≤ 18446744073709551615 := by omega
  clear h1 h2 h3 h4 HL
  go_enter Try.func32, Try.ntmps32
  go_wp2_with fail
  refine (HV.out _).mono ?_
  rintro e w1 ⟨rfl, hb⟩
  have HC1 := Lib.hid (HC0.out.keep hb)
  have HB1 := Lib.hid (HB0.out.on hb)
  clear hb HC0 HB0 HV
  go_upto_region 3 with fail
  have HC2 := Lib.hid (HC1.out.keep (Below.refl _ _).drew)
  have HB2 := Lib.hid (HB1.out.drew)
  clear HC1 HB1
  refine wp_region_held_drew (S := (fun w' => w'.cell? ⟨w.heap.size, 0, none⟩ = some (.int .i64 1) ∧ w'.cell? ⟨w.heap.size, 1, none⟩ = some (.int .i64 bl) ∧ w'.cell? ⟨w.heap.size, 2, none⟩ = some (.int .u64 ver))) (by kernel_rfl) ⟨HC2.out.c0, HC2.out.c1, HC2.out.c2⟩ (fun hHeld => ?_)
  refine wpAnyH_take (i := 0) (v := ?_) rfl (by kernel_rfl) (by kernel_rfl) (by kernel_rfl) (fun _ _ _ h => h) (Or.inl ⟨by rfl, ?_⟩) (by assumption) ?_
  rotate_left
  · (intro w hSw; (try dsimp only at hSw); go_simp; try with_reducible rfl)
  try simp only [Act.put, List.setIfInBounds_toArray, List.set_cons_zero, List.set_cons_succ]
  refine wpAnyH_take (i := 1) (v := ?_) rfl (by kernel_rfl) (by kernel_rfl) (by kernel_rfl) (fun _ _ _ h => h) (Or.inl ⟨by rfl, ?_⟩) (by assumption) ?_
  rotate_left
  · (intro w hSw; (try dsimp only at hSw); go_simp; try with_reducible rfl)
  try simp only [Act.put, List.setIfInBounds_toArray, List.set_cons_zero, List.set_cons_succ]
  refine wpAnyH_take (i := 2) (v := ?_) rfl (by kernel_rfl) (by kernel_rfl) (by kernel_rfl) (fun _ _ _ h => h) (Or.inl ⟨by rfl, ?_⟩) (by assumption) ?_
  rotate_left
  · (intro w hSw; (try dsimp only at hSw); go_simp; try with_reducible rfl)
  try simp only [Act.put, List.setIfInBounds_toArray, List.set_cons_zero, List.set_cons_succ]
  refine wpAnyH_take (i := 4) (v := ?_) rfl (by kernel_rfl) (by kernel_rfl) (by kernel_rfl) (fun _ _ _ h => h) (Or.inl ⟨by rfl, ?_⟩) (by assumption) ?_
  rotate_left
  · (intro w hSw; (try dsimp only at hSw); go_simp; try with_reducible rfl)
  try simp only [Act.put, List.setIfInBounds_toArray, List.set_cons_zero, List.set_cons_succ]
  refine wpAnyH_take (i := 5) (v := ?_) rfl (by kernel_rfl) (by kernel_rfl) (by kernel_rfl) (fun _ _ _ h => h) (Or.inl ⟨by rfl, ?_⟩) (by assumption) ?_
  rotate_left
  · (intro w hSw; (try dsimp only at hSw); go_simp; try with_reducible rfl)
  try simp only [Act.put, List.setIfInBounds_toArray, List.set_cons_zero, List.set_cons_succ]
  refine wpAnyH_take (i := 6) (v := ?_) rfl (by kernel_rfl) (by kernel_rfl) (by kernel_rfl) (fun _ _ _ h => h) (Or.inl ⟨by rfl, ?_⟩) (by assumption) ?_
  rotate_left
  · (intro w hSw; (try dsimp only at hSw); go_simp; try with_reducible rfl)
  try simp only [Act.put, List.setIfInBounds_toArray, List.set_cons_zero, List.set_cons_succ]
  refine wpAnyH_take (i := 8) (v := ?_) rfl (by kernel_rfl) (by kernel_rfl) (by kernel_rfl) (fun _ _ _ h => h) (Or.inl ⟨by rfl, ?_⟩) (by assumption) ?_
  rotate_left
  · (intro w hSw; (try dsimp only at hSw); go_simp; try with_reducible rfl)
  try simp only [Act.put, List.setIfInBounds_toArray, List.set_cons_zero, List.set_cons_succ]
  refine wpAnyH_take (i := 9) (v := ?_) rfl (by kernel_rfl) (by kernel_rfl) (by kernel_rfl) (fun _ _ _ h => h) (Or.inl ⟨by rfl, ?_⟩) (by assumption) ?_
  rotate_left
  · (intro w hSw; (try dsimp only at hSw); go_simp; try with_reducible rfl)
  try simp only [Act.put, List.setIfInBounds_toArray, List.set_cons_zero, List.set_cons_succ]
  have hk := (Below.refl w1.drew.heap.size w1.drew).onAlloc (.cells #[.int .u8 1] 5)
  have HC3 := Lib.hid (HC2.out.keep hk)
  have HB3 := Lib.hid (HB2.out.on hk)
  have HY3 := Lib.hid (((OwnY.one w1.drew w1.drew.heap.size (Nat.le_refl _) 1).rd (by simp)))
  refine wpAnyH_ready (rs := [3]) (by kernel_rfl) (by simp) ?_
  refine AllReadyH.cons rfl (fun K hK => ?_) AllReadyH.nil
  go_simp
  refine hK.out _ _ ⟨HC3.out.c0, HC3.out.c1, HC3.out.c2⟩ (fun hHeld => ?_)
  clear hK K
  try simp only [Act.put, List.setIfInBounds_toArray, List.set_cons_zero, List.set_cons_succ]
  refine wpAnyH_ready (rs := [7]) (by kernel_rfl) (by simp) ?_
  refine AllReadyH.cons rfl (fun K hK => ?_) AllReadyH.nil
  go_simp
  obtain ⟨_, _, hv, _, _, hrd⟩ := HY3.out
  injection hv with hv1 hv2 hv3
  subst hv1 hv3
  clear hv2
  refine (HP1.out _ _ _ hrd).mono ?_
  rintro e w4 ⟨v, rfl, ho, hb⟩
  obtain ⟨pa, pc, rfl, _, _, hrd2⟩ := ho.rd (by simp [putY_len])
  simp only [List.length_append, List.length_cons, List.length_nil, putY_len]
  have HC4 := Lib.hid (HC3.out.keep hb)
  have HB4 := Lib.hid (HB3.out.on hb)
  have HR4 := Lib.hid hrd2
  clear hk hrd hrd2 ho hb HY3 HC3 HB3
  refine hK.out _ _ ⟨HC4.out.c0, HC4.out.c1, HC4.out.c2⟩ (fun hHeld => ?_)
  clear hK K
  try simp only [Act.put, List.setIfInBounds_toArray, List.set_cons_zero, List.set_cons_succ]
  refine wpAnyH_ready (rs := [10]) (by kernel_rfl) (by simp) ?_
  refine AllReadyH.cons rfl (fun K hK => ?_) AllReadyH.nil
  go_simp
  refine (HP2.out _ _ _ HR4.out).mono ?_
  rintro e w5 ⟨v, rfl, ho, hb⟩
  have HC5 := Lib.hid (HC4.out.keep hb)
  have HS45 := Lib.hid hb
  have HSZ := Lib.hid hb.size
  have HO5 := Lib.hid ho
  clear ho hb HC4 HR4
  refine hK.out _ _ ⟨HC5.out.c0, HC5.out.c1, HC5.out.c2⟩ (fun hHeld => ?_)
  clear hK K
  try simp only [Act.put, List.setIfInBounds_toArray, List.set_cons_zero, List.set_cons_succ]
  refine wpAnyH_take (i := 11) (v := ?_) rfl (by kernel_rfl) (by kernel_rfl) (by kernel_rfl) (fun _ _ _ h => h) (Or.inl ⟨by rfl, ?_⟩) (by assumption) ?_
  rotate_left
  · (intro w hSw; (try dsimp only at hSw); go_simp; try with_reducible rfl)
  try simp only [Act.put, List.setIfInBounds_toArray, List.set_cons_zero, List.set_cons_succ]
  simp only [Act.put, List.getElem_toArray, List.getElem_cons_succ, List.getElem_cons_zero, List.setIfInBounds_toArray, List.set_cons_zero, List.set_cons_succ]
  refine wpAnyH_done (by kernel_rfl) ?_ _
  have HSS := Lib.hid (HC5.out.rdY).source
  have HLT := Lib.hid (HO5.out.lt)
  have hsz4 : w4.heap.size ≤ w5.heap.size := HSZ.out
  simp only [List.length_replicate] at HSS
  go_wp2_with (at_builtin; refine wpList_append_xs _ rfl _ _ 36 rfl w4.heap.size 5 i0 (.int .u8 0) 1 1 Try.underlying36 hi hz0 hz1 hz2 rfl (by decide) _ _ _ rfl HO5.out _ _ _ _ rfl HSS.out (by simp [putY_len]) (by simp [maxLen, putY_len]) hsz4 ?_; intro v1 w6 hown1 hgrow1 hwhere1)
  have hg6 : Below w4.heap.size w4 w6 := HS45.out.onGrow hgrow1 fun j hj => (HLT.out j hj).1
  have ho6 := OwnY.append (l := [1] ++ putY 4 bl ++ putY 8 ver) (r := List.replicate 8 0) hown1 (by simp)
  obtain ⟨qa, qc, rfl, _, _, hrd⟩ := ho6.rd (by simp [putY_len])
  have HB6 := Lib.hid (HB4.out.on hg6)
  have HR6 := Lib.hid hrd
  clear hown1 hgrow1 hwhere1 ho6 hrd hg6 HSS HLT HO5 HC5 HS45 HB4 hsz4 HSZ
  simp only [List.length_append, List.length_cons, List.length_nil, putY_len, List.length_replicate]
  go_wp2_with fail
  refine (HP3.out _ _ _ HR6.out).mono ?_
  rintro e w7 ⟨v, rfl, ho, hb⟩
  obtain ⟨sa, sc, rfl, _, _, hrd⟩ := ho.rd (by simp [putY_len])
  have HB7 := Lib.hid (HB6.out.on hb)
  have HR7 := Lib.hid hrd
  clear ho hrd hb HB6 HR6
  simp only [List.length_append, List.length_cons, List.length_nil, putY_len, List.length_replicate]
  go_wp2_with fail
  refine (HP4.out _ _ _ HR7.out).mono ?_
  rintro e w8 ⟨v, rfl, ho, hb⟩
  have HB8 := Lib.hid (HB7.out.on hb)
  have HO8 := Lib.hid (ho.mono HB7.out.size)
  clear ho hb HB7 HR7
  go_wp2_with fail
  go_ret2
  exact ⟨_, rfl, HO8.out, HB8.out⟩
set_option maxHeartbeats 4000000 in
theorem sector_any (bl ver t : Nat) (w : World) (h1 : bl < 65536) (h2 : 1 ≤ ver) (h3 : ver < 18446744073709551616) (h4 : t < 18446744073709551616) :
    Calls Try.prog 19 #[.int .i64 bl, .int .u64 ver, .int .u64 t] w fun e w' => ∃ v, e = .returned v ∧ OwnY w' w.heap.size v (secL bl ver t) ∧ Below w.heap.size w w' := by
  have HE := Lib.hid (rencode_any bl ver t w h1 h2 h3 h4)
  go_enter Try.func19, Try.ntmps19
  go_wp2_with fail
  refine HE.out.mono ?_
  rintro e w1 ⟨v, rfl, ho, hb⟩
  have HO := Lib.hid ho
  have HB := Lib.hid hb
  clear ho hb
  go_wp2_with fail
  go_ret
  exact ⟨_, rfl, HO.out, HB.out⟩
end Go.Proofs.Ytbiecglooagmmaa
