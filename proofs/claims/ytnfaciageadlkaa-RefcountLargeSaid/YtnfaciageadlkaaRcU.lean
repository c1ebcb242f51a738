/-
  The walk of the law RefcountLarge.
  Conditions: none beyond that the arguments can be read.
-/
import Derived.Test.YtnfaciageadlkaaRcT
import Derived.Test.YtnfaciageadlkaaRcM
import Derived.IntWalk
import Derived.Lib.MinMax
import Derived.Great.Walk
import Derived.Test.YtnfaciageadlkaaHkA
import Derived.Deep.RegionHeld3
import Derived.RegionTactic
namespace Go.Proofs.Ytnfaciageadlkaa
set_option linter.unusedSimpArgs false
set_option linter.unusedVariables false
set_option maxRecDepth 100000
open Go.RowKit

/-- The three boxes of the law: the counts, the two runs. -/
structure LQ (W : World) (T X Y : Nat) (cs : Value) (n1 a0 n2 b0 : Int) : Prop where
  t : W.cell? ⟨T, 0, none⟩ = some cs
  x0 : W.cell? ⟨X, 0, none⟩ = some (.int .i64 0)
  x1 : W.cell? ⟨X, 1, none⟩ = some (.int .i64 n1)
  x2 : W.cell? ⟨X, 2, none⟩ = some (.int .i64 a0)
  y0 : W.cell? ⟨Y, 0, none⟩ = some (.int .i64 0)
  y1 : W.cell? ⟨Y, 1, none⟩ = some (.int .i64 n2)
  y2 : W.cell? ⟨Y, 2, none⟩ = some (.int .i64 b0)
theorem LQ.later {W W' : World} {T X Y : Nat} {cs : Value} {n1 a0 n2 b0 : Int} (h : LQ W T X Y cs n1 a0 n2 b0) (hb : Below W.heap.size W W') : LQ W' T X Y cs n1 a0 n2 b0 :=
  ⟨hb.keep h.t, hb.keep h.x0, hb.keep h.x1, hb.keep h.x2, hb.keep h.y0, hb.keep h.y1, hb.keep h.y2⟩
def FalQ (v : World) (p : Value) (W : World) : Prop := p = .bool false ∧ Below v.heap.size v W
/-- A small slice literal in a drawn region. -/
theorem wp_bslit {P : Program} {o : Oper} {a : Act} {w : World} {K : Act → World → Prop} {Q : Exit → Act → World → Prop} (t e : TypeId) (len : Nat) (parts : Array (Nat × Operand)) (ho : o.op = .buildSlice t len parts)
    (N : Nat) (hN : w.heap.size = N) (hu : P.underlying t = some (.slice e)) (cells : Array Value)
    (hf : P.builtSlice e len (parts.toList.map fun (i, x) => (i, a.eval x)) = some cells)
    (h : K (a.put o.dst (.slice (some ⟨N, 0, none⟩) len len)) (w.alloc (.cells cells e))) : o.wp P a w K Q := by
  subst hN
  rw [← Array.toList_map] at hf
  unfold Program.builtSlice at hf
  cases hie : P.info? e with
  | none => simp [hie] at hf
  | some ie =>
    simp only [hie] at hf
    cases hz : ie.zero with
    | none => simp [hz] at hf
    | some z =>
      simp only [hz] at hf
      by_cases hc : len * ie.size > 2 ^ 24 ∨ len * ie.size = 0
      · simp [hc] at hf
      · rw [if_neg hc] at hf
        exact wp_buildSlice t e len parts ho cells ie z hu hie hz (fun h' => hc (Or.inl h')) (fun h' => hc (Or.inr h')) hf h
theorem two_ext (p q r x y z : Int) : Try.prog.builtSlice 32 2 [(0, .agg #[.int .i64 p, .int .i64 q, .int .i64 r]), (1, .agg #[.int .i64 x, .int .i64 y, .int .i64 z])] = some #[.int .i64 p, .int .i64 q, .int .i64 r, .int .i64 x, .int .i64 y, .int .i64 z] := by kernel_rfl
set_option maxRecDepth 100000 in
set_option maxHeartbeats 16000000 in
theorem law_large (a0 a1 b0 b1 : Int) (w : World) (ha0 : 0 ≤ a0 ∧ a0 ≤ 65535) (ha1 : 0 ≤ a1 ∧ a1 ≤ 65535) (hb0 : 0 ≤ b0 ∧ b0 ≤ 65535) (hb1 : 0 ≤ b1 ∧ b1 ≤ 65535) :
    Calls Try.prog 3 #[.agg #[.int .u16 a0, .int .u16 a1], .agg #[.int .u16 b0, .int .u16 b1]] w fun e w' => e = .returned (.bool true) ∧ Below w.heap.size w w' := by
  obtain ⟨x1, x2⟩ := ha0
  obtain ⟨x3, x4⟩ := ha1
  obtain ⟨x5, x6⟩ := hb0
  obtain ⟨x7, x8⟩ := hb1
  go_enter Try.func3, Try.ntmps3
  go_wp2_with fail
  refine (awake34_any _).mono ?_
  rintro e w1 ⟨rfl, hb1⟩
  have ha := hb1.keep (a := ⟨w.heap.size, 0, none⟩) (v := .int .u16 a0) (by simp)
  have ha' := hb1.keep (a := ⟨w.heap.size, 1, none⟩) (v := .int .u16 a1) (by simp)
  have hb := hb1.keep (a := ⟨w.heap.size + 1, 0, none⟩) (v := .int .u16 b0) (by simp)
  have hb' := hb1.keep (a := ⟨w.heap.size + 1, 1, none⟩) (v := .int .u16 b1) (by simp)
  have hB1 : Below w.heap.size w w1 := (((Below.refl w.heap.size w).onAlloc _).onAlloc _).on hb1
  clear hb1
  go_wp2_with fail
  obtain ⟨N, hN⟩ : ∃ N : Nat, N = 65536 := ⟨_, rfl⟩
  have hN' : (65536 : Int) = N := by omega
  have hnew := new_yes N w1 (by omega)
  rw [← hN'] at hnew
  refine hnew.mono ?_
  rintro e w2 ⟨v2, rfl, ho2, hb2⟩
  obtain ⟨a2, c2, rfl, hr2⟩ := ho2.rd (by simp; omega)
  have HNN := Lib.hid hN'
  have hTB : w.heap.size ≤ w2.heap.size := (hB1.on hb2).size
  have hNle : N ≤ 65536 := by omega
  have hNge : (65536 : Int) ≤ N := by omega
  replace ha := hb2.keep ha
  replace ha' := hb2.keep ha'
  replace hb := hb2.keep hb
  replace hb' := hb2.keep hb'
  have hB2 := Lib.hid (hB1.on hb2)
  have HR2 := Lib.hid hr2
  have HLN : Hid ((List.replicate N (0 : Int)).length = N) := Lib.hid (by simp)
  rw [HLN.out]
  clear hN hN' hnew ho2 hb2 hr2 hB1
  go_wp2_with fail
  have HC := Lib.hid (HR2.out.keep ((Below.refl w2.heap.size w2).onAlloc (.cells #[.slice a2 N c2] 27)))
  have hT : (w2.alloc (.cells #[.slice a2 N c2] 27)).cell? ⟨w2.heap.size, 0, none⟩ = some (.slice a2 N c2) := by simp
  have hTf : (w2.alloc (.cells #[.slice a2 N c2] 27)).frozen? ⟨w2.heap.size, 0, none⟩ = false := by simp
  have hk := (Below.refl w2.heap.size w2).onAlloc (.cells #[.slice a2 N c2] 27)
  replace ha := hk.keep ha
  replace ha' := hk.keep ha'
  replace hb := hk.keep hb
  replace hb' := hk.keep hb'
  have hTn : w2.heap.size < (w2.alloc (.cells #[.slice a2 N c2] 27)).heap.size := by simp
  replace hB2 := Lib.hid (hB2.out.on hk)
  clear hk HR2
  generalize w2.alloc (.cells #[.slice a2 N c2] 27) = W at *
  generalize w2.heap.size = T at *
  have q1 : IntKind.i64.wrap (65536 - a0) = 65536 - a0 := IntWalk.i64_in _ (by omega)
  have q4 : ¬ (65536 - a0 = 0) := by omega
  go_region
  have m1 := Int.emod_nonneg a1 (show 65536 - a0 ≠ 0 by omega)
  have m2 := Int.emod_lt_of_pos a1 (show 0 < 65536 - a0 by omega)
  have m3 : 1 ≤ wrap64 (1 + a1 % (65536 - a0)) ∧ wrap64 (1 + a1 % (65536 - a0)) ≤ 65536 - a0 := by unfold wrap64; omega
  obtain ⟨m4, m5⟩ := m3
  generalize wrap64 (1 + a1 % (65536 - a0)) = n1 at *
  generalize a1 % (65536 - a0) = r1 at *
  have hk : Below W.heap.size W (W.alloc (.cells #[.int .i64 0, .int .i64 n1, .int .i64 a0] 32)).drew := ((Below.refl _ _).onAlloc _).drew
  have hx0 : (W.alloc (.cells #[.int .i64 0, .int .i64 n1, .int .i64 a0] 32)).drew.cell? ⟨W.heap.size, 0, none⟩ = some (.int .i64 0) := by simp
  have hx1 : (W.alloc (.cells #[.int .i64 0, .int .i64 n1, .int .i64 a0] 32)).drew.cell? ⟨W.heap.size, 1, none⟩ = some (.int .i64 n1) := by simp
  have hx2 : (W.alloc (.cells #[.int .i64 0, .int .i64 n1, .int .i64 a0] 32)).drew.cell? ⟨W.heap.size, 2, none⟩ = some (.int .i64 a0) := by simp
  replace hb := hk.keep hb
  replace hb' := hk.keep hb'
  have hTf := hk.keepF hT hTf
  replace hT := hk.keep hT
  replace hB2 := Lib.hid (hB2.out.on hk)
  replace HC := Lib.hid (HC.out.keep hk)
  have hXW : W.heap.size < (W.alloc (.cells #[.int .i64 0, .int .i64 n1, .int .i64 a0] 32)).drew.heap.size := by simp
  generalize (W.alloc (.cells #[.int .i64 0, .int .i64 n1, .int .i64 a0] 32)).drew = W4 at *
  have m5' : a0 + n1 ≤ 65536 := by omega
  clear hk ha ha' q1 q4 m1 m2 m5 x3 x4
  have q1 : IntKind.i64.wrap (65536 - b0) = 65536 - b0 := IntWalk.i64_in _ (by omega)
  have q4 : ¬ (65536 - b0 = 0) := by omega
  go_wp2_with fail
  go_region
  have m1 := Int.emod_nonneg b1 (show 65536 - b0 ≠ 0 by omega)
  have m2 := Int.emod_lt_of_pos b1 (show 0 < 65536 - b0 by omega)
  have m3 : 1 ≤ wrap64 (1 + b1 % (65536 - b0)) ∧ wrap64 (1 + b1 % (65536 - b0)) ≤ 65536 - b0 := by unfold wrap64; omega
  obtain ⟨m6, m7⟩ := m3
  generalize wrap64 (1 + b1 % (65536 - b0)) = n2 at *
  generalize b1 % (65536 - b0) = r2 at *
  have hk : Below W4.heap.size W4 (W4.alloc (.cells #[.int .i64 0, .int .i64 n2, .int .i64 b0] 32)).drew := ((Below.refl _ _).onAlloc _).drew
  have hy0 : (W4.alloc (.cells #[.int .i64 0, .int .i64 n2, .int .i64 b0] 32)).drew.cell? ⟨W4.heap.size, 0, none⟩ = some (.int .i64 0) := by simp
  have hy1 : (W4.alloc (.cells #[.int .i64 0, .int .i64 n2, .int .i64 b0] 32)).drew.cell? ⟨W4.heap.size, 1, none⟩ = some (.int .i64 n2) := by simp
  have hy2 : (W4.alloc (.cells #[.int .i64 0, .int .i64 n2, .int .i64 b0] 32)).drew.cell? ⟨W4.heap.size, 2, none⟩ = some (.int .i64 b0) := by simp
  replace hx0 := hk.keep hx0
  replace hx1 := hk.keep hx1
  replace hx2 := hk.keep hx2
  have hTf := hk.keepF hT hTf
  replace hT := hk.keep hT
  replace hB2 := Lib.hid (hB2.out.on hk)
  replace HC := Lib.hid (HC.out.keep hk)
  generalize (W4.alloc (.cells #[.int .i64 0, .int .i64 n2, .int .i64 b0] 32)).drew = W5 at *
  generalize W4.heap.size = Y at *
  generalize W.heap.size = X at *
  have m7' : b0 + n2 ≤ 65536 := by omega
  clear hk hb hb' q1 q4 m1 m2 m7 x7 x8
  go_wp2_with fail
  as_aux_lemma =>
  have hxN : inN N ⟨0, n1, a0⟩ := ⟨by simp only; omega, by simp only; omega, by simp only; omega⟩
  have hyN : inN N ⟨0, n2, b0⟩ := ⟨by simp only; omega, by simp only; omega, by simp only; omega⟩
  have HWL : Hid (wfL [⟨0, n1, a0⟩, ⟨0, n2, b0⟩]) := Lib.hid (by
    intro z hz
    simp at hz
    rcases hz with rfl | rfl
    all_goals exact ⟨by simp, by simp only; omega, by simp only; omega⟩)
  have hcm : 0 ≤ commonX ⟨0, n1, a0⟩ ⟨0, n2, b0⟩ ∧ commonX ⟨0, n1, a0⟩ ⟨0, n2, b0⟩ ≤ n1 ∧ commonX ⟨0, n1, a0⟩ ⟨0, n2, b0⟩ ≤ n2 := by
    simp only [commonX]
    omega
  have HCM : Hid (max 0 (min (a0 + n1) (b0 + n2) - max a0 b0) = commonX ⟨0, n1, a0⟩ ⟨0, n2, b0⟩) := Lib.hid rfl
  obtain ⟨hcm0, hcm1, hcm2⟩ := hcm
  have hadd := add_yes (List.replicate N 0) [⟨0, n1, a0⟩, ⟨0, n2, b0⟩] a2 _ c2 2 _ (HC.out.keep ((Below.refl W5.heap.size W5).onAlloc (.cells #[.int .i64 0, .int .i64 n1, .int .i64 a0, .int .i64 0, .int .i64 n2, .int .i64 b0] 32))) (Rd.lit W5 #[.int .i64 0, .int .i64 n1, .int .i64 a0, .int .i64 0, .int .i64 n2, .int .i64 b0] [⟨0, n1, a0⟩, ⟨0, n2, b0⟩] _ rfl rfl (by simp)) HWL.out (by rw [HLN.out]; exact two_perm hxN hyN) (inR_mono (inR_zero N) (by omega) (by omega)) (by simp)
  rw [HLN.out] at hadd
  refine hadd.mono ?_
  rintro e w6 ⟨v6, rfl, ho6, hb6⟩
  have HT2 := Lib.hid (two_length hxN hyN)
  have HT3 := Lib.hid (inR_mono (lo' := 0) (hi' := 1000000000) (two_range hxN hyN) (by omega) (by omega))
  have HT4 := Lib.hid (two_sum hxN hyN)
  have HT5 := Lib.hid (two_used hxN hyN)
  have HT6 := Lib.hid (two_single hxN hyN)
  have HU1 := Lib.hid (back_neg hxN hyN)
  have HU2 := Lib.hid (back_used hxN hyN)
  have HU3 := Lib.hid (back_of hxN hyN)
  have HU4 := Lib.hid (back_free hxN hyN hNle)
  have HU5 := Lib.hid (inR_mono (lo' := 0) (hi' := 1000000000) (back_range hxN hyN) (by omega) (by omega))
  have HU6 := Lib.hid (back_length hxN hyN)
  have HP1 := Lib.hid (one_perm hxN hyN)
  generalize commonX ⟨0, n1, a0⟩ ⟨0, n2, b0⟩ = cm at *
  generalize chgL (List.replicate N 0) [⟨0, n1, a0⟩, ⟨0, n2, b0⟩] 1 = C at *
  obtain ⟨a6, c6, rfl, _⟩ := ho6.rd (by rw [HT2.out]; exact hNle)
  rw [HT2.out] at ho6 ⊢
  have hk := ((Below.refl W5.heap.size W5).onAlloc (.cells #[.int .i64 0, .int .i64 n1, .int .i64 a0, .int .i64 0, .int .i64 n2, .int .i64 b0] 32)).on hb6
  have hTW : T < W5.heap.size := World.block_lt_of_cell? _ _ hT
  replace hx0 := hk.keep hx0
  replace hx1 := hk.keep hx1
  replace hx2 := hk.keep hx2
  replace hy0 := hk.keep hy0
  replace hy1 := hk.keep hy1
  replace hy2 := hk.keep hy2
  have hTf := hk.keepF hT hTf
  replace hT := hk.keep hT
  have hg6 := grown_setCell w6 ⟨T, 0, none⟩ (.slice a6 N c6)
  have HC6 := Lib.hid ((ho6.away ⟨T, 0, none⟩ (.slice a6 N c6) (fun h => by have := (ho6.lt _ h).1; simp at this; omega)).rd' (by rw [HT2.out]; exact hNle))
  have hT7 := World.cell?_setCell_same (v := .slice a6 N c6) _ _ hT
  have hz0 := hg6.cell hx0 (by simp; omega)
  have hz1 := hg6.cell hx1 (by simp; omega)
  have hz2 := hg6.cell hx2 (by simp; omega)
  have hu0 := hg6.cell hy0 (by simp; omega)
  have hu1 := hg6.cell hy1 (by simp; omega)
  have hu2 := hg6.cell hy2 (by simp; omega)
  have HB7 := Lib.hid ((hB2.out.on hk).setCell (p := ⟨T, 0, none⟩) (by have := hB2.out; simp only; exact hTB) (.slice a6 N c6))
  clear ho6 hb6 hk hg6 hadd HC hB2 HWL
  go_upto_region 9 with fail
  as_aux_lemma =>
  clear hx0 hx1 hx2 hy0 hy1 hy2 hT hTf
  generalize w6.setCell ⟨T, 0, none⟩ (.slice a6 N c6) = W7 at *
  have HQ0 := Lib.hid (LQ.mk hT7 hz0 hz1 hz2 hu0 hu1 hu2)
  have e3 : a0 + n1 ≤ 65536 := by omega
  have e4 : b0 + n2 ≤ 65536 := by omega
  have qa : IntKind.i64.wrap (a0 + n1) = a0 + n1 := IntWalk.i64_in _ (by omega)
  have qb : IntKind.i64.wrap (b0 + n2) = b0 + n2 := IntWalk.i64_in _ (by omega)
  have qc : IntKind.i64.wrap (min (a0 + n1) (b0 + n2) - max a0 b0) = min (a0 + n1) (b0 + n2) - max a0 b0 := IntWalk.i64_in _ (by omega)
  go_cut [10] from 62 to 79 (fun v wx => v = .int .i64 cm ∧ wx = W7)
  case first =>
    clear hT7 HB7 HC6 HT2 HT3 HT4 HT5 HT6 HU1 HU2 HU3 HU4 HU5 HU6 HP1 hTW hXW hTn hu0 hz0 m4 m5' m6 m7' e3 e4 x1 x2 x5 x6 hcm0 hcm1 hcm2 hxN hyN
    go_wp2_with fail
    go_meet
    exact ⟨by rw [← HCM.out], rfl⟩
  case rest =>
    as_aux_lemma =>
    obtain ⟨rfl, hwc⟩ := hcut
    subst hwc
    clear hT7 hz0 hz1 hz2 hu0 hu1 hu2
    go_upto_region 10 with fail
    have HV := Lib.hid (HQ0.out.later (Below.refl _ _).drew)
    have HTot := Lib.hid (fun (w : World) (h : RdI w a6 C) => total_is' C a6 c6 _ w h HT3.out HT4.out)
    have HUse := Lib.hid (fun (w : World) (h : RdI w a6 C) => used_is C a6 c6 _ w h HT3.out HT5.out)
    have HSin := Lib.hid (fun (w : World) (al : Option Addr) (cl : Nat) (h : RdI w a6 C) (hl : Rd w al [⟨0, n1, a0⟩, ⟨0, n2, b0⟩]) => single_any C [⟨0, n1, a0⟩, ⟨0, n2, b0⟩] a6 al c6 cl w h hl (by
      intro z hz
      simp at hz
      rcases hz with rfl | rfl
      all_goals exact ⟨by simp, by simp only; omega, by simp only; omega⟩))
    rw [HT6.out] at HSin
    have HTL := Lib.hid HT2.out
    rw [HTL.out] at HTot HUse HSin
    have q1 : IntKind.i64.wrap (n1 + n2) = n1 + n2 := IntWalk.i64_in _ (by omega)
    have q2 : IntKind.i64.wrap (n1 + n2 - cm) = n1 + n2 - cm := IntWalk.i64_in _ (by omega)
    have q3 : IntKind.i64.wrap (2 * cm) = 2 * cm := IntWalk.i64_in _ (by omega)
    have q4 : IntKind.i64.wrap (n1 + n2 - 2 * cm) = n1 + n2 - 2 * cm := IntWalk.i64_in _ (by omega)
    go_cut [115] from 80 to 115 (fun p wx => FalQ wc p wx)
    case first =>
      as_aux_lemma =>
      have HCD := Lib.hid (HC6.out.keep (Below.refl wc.heap.size wc).drew)
      have HBD := Lib.hid ((Below.refl wc.heap.size wc).drew)
      clear HCM HNN HT2 HT3 HT4 HT5 HT6 HU1 HU2 HU3 HU4 HU5 HU6 HP1 HB7 hTW hXW hTn hTB hNge HC6 HQ0
      refine wp_region_held_drew (S := (fun w' => w'.cell? ⟨T, 0, none⟩ = some (.slice a6 N c6) ∧ w'.cell? ⟨X, 0, none⟩ = some (.int .i64 0) ∧ w'.cell? ⟨X, 1, none⟩ = some (.int .i64 n1) ∧ w'.cell? ⟨X, 2, none⟩ = some (.int .i64 a0) ∧ w'.cell? ⟨Y, 0, none⟩ = some (.int .i64 0) ∧ w'.cell? ⟨Y, 1, none⟩ = some (.int .i64 n2) ∧ w'.cell? ⟨Y, 2, none⟩ = some (.int .i64 b0))) (by kernel_rfl) ⟨HV.out.t, HV.out.x0, HV.out.x1, HV.out.x2, HV.out.y0, HV.out.y1, HV.out.y2⟩ (fun hHeld => ?_)
      generalize wc.drew = V0 at *
      refine tk 0 ?_ (k := by intro g; (try simp only [Act.put, sg, sp]); exact g)
      refine tk 2 ?_ (k := by intro g; (try simp only [Act.put, sg, sp]); exact g)
      refine tk 3 ?_ (k := by intro g; (try simp only [Act.put, sg, sp]); exact g)
      refine tk 4 ?_ (k := by intro g; (try simp only [Act.put, sg, sp]); exact g)
      refine tk 5 ?_ (k := by intro g; (try simp only [Act.put, sg, sp]); exact g)
      refine tkv 6 ((.int .i64 (n1 + n2))) ?_
      refine rdy 1 fun K hK => ?_
      go_simp
      refine (HTot.out _ HCD.out).mono ?_
      rintro e w1 ⟨rfl, hb⟩
      have HV1 := Lib.hid (HV.out.later hb)
      have HC1 := Lib.hid (HCD.out.keep hb)
      have HB1 := Lib.hid (HBD.out.on hb)
      clear hb HV HCD HBD HTot
      refine hK.out _ _ ⟨HV1.out.t, HV1.out.x0, HV1.out.x1, HV1.out.x2, HV1.out.y0, HV1.out.y1, HV1.out.y2⟩ (fun hHeld => ?_)
      clear hK K
      try simp only [Act.put, sg, sp]
      as_aux_lemma =>
      refine tkv 7 ((.bool false)) ?_
      refine tkv 8 ((.bool false)) ?_
      refine tk 9 ?_ (k := by intro g; (try simp only [Act.put, sg, sp]); exact g)
      refine tk 11 ?_ (k := by intro g; (try simp only [Act.put, sg, sp]); exact g)
      refine tk 12 ?_ (k := by intro g; (try simp only [Act.put, sg, sp]); exact g)
      as_aux_lemma =>
      refine tk 13 ?_ (k := by intro g; (try simp only [Act.put, sg, sp]); exact g)
      refine tk 14 ?_ (k := by intro g; (try simp only [Act.put, sg, sp]); exact g)
      refine tkv 15 ((.int .i64 (n1 + n2))) ?_
      refine tk 16 ?_ (k := by intro g; (try simp only [Act.put, sg, sp]); exact g)
      refine tkv 17 ((.int .i64 (n1 + n2 - cm))) ?_
      refine rdy 10 fun K hK => ?_
      go_simp
      refine (HUse.out _ HC1.out).mono ?_
      rintro e w2 ⟨rfl, hb⟩
      have HV2 := Lib.hid (HV1.out.later hb)
      have HC2 := Lib.hid (HC1.out.keep hb)
      have HB2 := Lib.hid (HB1.out.on hb)
      clear hb HV1 HC1 HB1 HUse
      refine hK.out _ _ ⟨HV2.out.t, HV2.out.x0, HV2.out.x1, HV2.out.x2, HV2.out.y0, HV2.out.y1, HV2.out.y2⟩ (fun hHeld => ?_)
      clear hK K
      try simp only [Act.put, sg, sp]
      as_aux_lemma =>
      refine tkv 18 ((.bool false)) ?_
      refine tkv 19 ((.bool false)) ?_
      refine tkv 20 ((.bool false)) ?_
      as_aux_lemma =>
      refine tk 21 ?_ (k := by intro g; (try simp only [Act.put, sg, sp]); exact g)
      refine tk 22 ?_ (k := by intro g; (try simp only [Act.put, sg, sp]); exact g)
      refine tk 23 ?_ (k := by intro g; (try simp only [Act.put, sg, sp]); exact g)
      refine tk 26 ?_ (k := by intro g; (try simp only [Act.put, sg, sp]); exact g)
      as_aux_lemma =>
      refine tk 27 ?_ (k := by intro g; (try simp only [Act.put, sg, sp]); exact g)
      refine tk 28 ?_ (k := by intro g; (try simp only [Act.put, sg, sp]); exact g)
      refine tk 29 ?_ (k := by intro g; (try simp only [Act.put, sg, sp]); exact g)
      as_aux_lemma =>
      refine tkv 30 ((.int .i64 (n1 + n2))) ?_
      refine tk 31 ?_ (k := by intro g; (try simp only [Act.put, sg, sp]); exact g)
      refine tkv 32 ((.int .i64 (2 * cm))) ?_
      refine tkv 33 ((.int .i64 (n1 + n2 - 2 * cm))) ?_
      as_aux_lemma =>
      refine rdy 24 fun K hK => ?_
      rw [if_pos (by kernel_rfl)]
      refine wp_bslit 34 32 2 _ rfl _ rfl (by kernel_rfl) #[.int .i64 0, .int .i64 n1, .int .i64 a0, .int .i64 0, .int .i64 n2, .int .i64 b0] (two_ext 0 n1 a0 0 n2 b0) ?_
      simp only [Act.put, sg, sp]
      have hk := (Below.refl w2.heap.size w2).onAlloc (.cells #[.int .i64 0, .int .i64 n1, .int .i64 a0, .int .i64 0, .int .i64 n2, .int .i64 b0] 32)
      have HV3 := Lib.hid (HV2.out.later hk)
      have HC3 := Lib.hid (HC2.out.keep hk)
      have HB3 := Lib.hid (HB2.out.on hk)
      have HRL := Lib.hid (Rd.lit w2 #[.int .i64 0, .int .i64 n1, .int .i64 a0, .int .i64 0, .int .i64 n2, .int .i64 b0] [⟨0, n1, a0⟩, ⟨0, n2, b0⟩] _ rfl rfl (by simp))
      clear hk HV2 HC2 HB2
      refine hK.out _ _ ⟨HV3.out.t, HV3.out.x0, HV3.out.x1, HV3.out.x2, HV3.out.y0, HV3.out.y1, HV3.out.y2⟩ (fun hHeld => ?_)
      clear hK K
      try simp only [Act.put, sg, sp]
      refine rdy 25 fun K hK => ?_
      go_simp
      refine (HSin.out _ _ _ HC3.out HRL.out).mono ?_
      rintro e w3 ⟨rfl, hb⟩
      have HV4 := Lib.hid (HV3.out.later hb)
      have HF9 : Hid (FalQ wc (.bool false) w3) := Lib.hid ⟨rfl, HB3.out.on hb⟩
      clear hb HV3 HC3 HB3 HRL HSin
      refine hK.out _ _ ⟨HV4.out.t, HV4.out.x0, HV4.out.x1, HV4.out.x2, HV4.out.y0, HV4.out.y1, HV4.out.y2⟩ (fun hHeld => ?_)
      clear hK K
      try simp only [Act.put, sg, sp]
      refine tkv 34 ((.bool false)) ?_
      refine tkv 35 ((.bool false)) ?_
      as_aux_lemma =>
      refine wpAnyH_done (by kernel_rfl) ?_ _
      go_wp2_with fail
      go_meet
      exact HF9.out
    case rest =>
      as_aux_lemma =>
      obtain ⟨rfl, hbc⟩ := hcut
      have HQ := Lib.hid (HQ0.out.later hbc)
      have HC8 := Lib.hid (HC6.out.keep hbc)
      have HB8 := Lib.hid (HB7.out.on hbc)
      clear hbc HV q1 q2 q3 q4 HTot HUse HSin
      have t0 := HQ.out.t
      have x0 := HQ.out.x0
      have x1 := HQ.out.x1
      have x2 := HQ.out.x2
      go_wp2_with fail
      have hdr := drop_yes C [⟨0, n1, a0⟩] a6 (some ⟨wc.heap.size, 0, none⟩) c6 1 _ (HC8.out.keep ((Below.refl wc.heap.size wc).onAlloc (.cells #[.int .i64 0, .int .i64 n1, .int .i64 a0] 32))) (Rd.lit wc #[.int .i64 0, .int .i64 n1, .int .i64 a0] [⟨0, n1, a0⟩] _ rfl rfl (by simp)) (by
        intro z hz
        simp at hz
        subst hz
        exact ⟨by simp, by simp only; omega, by simp only; omega⟩) (by rw [HT2.out]; exact HP1.out) HT3.out (by simp) HU1.out
      rw [HT2.out] at hdr
      refine hdr.mono ?_
      clear hdr
      rintro e v9 ⟨dv, fv, rfl, hod, hof, hb⟩
      obtain ⟨L, hL⟩ : ∃ L, runsL (freedL (chgL C [⟨0, n1, a0⟩] (-1)) [⟨0, n1, a0⟩]) = L := ⟨_, rfl⟩
      have hfree : lenL L = n1 - cm := by rw [← hL]; exact HU4.out
      have hLs : L.length ≤ 65536 := by rw [← hL]; exact canon_short (runs_facts _).1
      have hLM : ∀ x ∈ L, 0 ≤ x.n ∧ x.n ≤ 65536 := fun x hx => by
        rw [← hL] at hx
        have := (okB_iff x).1 ((runs_facts (freedL (chgL C [⟨0, n1, a0⟩] (-1)) [⟨0, n1, a0⟩])).1.1 x hx).2
        omega
      rw [hL] at hof
      obtain ⟨D, hD⟩ : ∃ D, chgL C [⟨0, n1, a0⟩] (-1) = D := ⟨_, rfl⟩
      have hDl : D.length = N := by rw [← hD]; exact HU6.out
      have hDr : inR 0 1000000000 D := by rw [← hD]; exact HU5.out
      have hDu : usedC D = n2 := by rw [← hD]; exact HU2.out
      have hDo : ofC D b0 = 1 := by rw [← hD]; exact HU3.out
      rw [hD] at hod
      obtain ⟨da, dc, rfl, hdr⟩ := hod.rd (by rw [hDl]; exact hNle)
      obtain ⟨la, lc, rfl, hlr⟩ := hof.rd (by omega)
      rw [hDl]
      have hk9 := ((Below.refl wc.heap.size wc).onAlloc (.cells #[.int .i64 0, .int .i64 n1, .int .i64 a0] 32)).on hb
      have hk10 := (Below.refl v9.heap.size v9).onAlloc (.cells #[.slice da N dc] 27)
      have HQ := Lib.hid ((HQ.out.later hk9).later hk10)
      have HBB := Lib.hid ((HB8.out.on hk9).on hk10)
      have HDR := Lib.hid (hdr.keep hk10)
      have HLR := Lib.hid (hlr.keep hk10)
      have HZ : Hid ((v9.alloc (.cells #[.slice da N dc] 27)).cell? ⟨v9.heap.size, 0, none⟩ = some (.slice da N dc)) := Lib.hid (by simp)
      have HLM := Lib.hid hLM
      have HFR := Lib.hid hfree
      have HDL := Lib.hid hDl
      have HDI := Lib.hid hDr
      have HDU := Lib.hid hDu
      have HDO := Lib.hid hDo
      clear hb hk9 hk10 hod hof hdr hlr hfree hLM hL hD hDl hDr hDu hDo t0 x0 x1 x2 HU1 HU2 HU3 HU4 HU5 HU6 HP1 HT2 HT3 HT4 HT5 HT6 HC6 HB7 HC8 HB8 HQ0
      go_upto_region 13 with fail
      generalize v9.alloc (.cells #[.slice da N dc] 27) = W9 at *
      generalize v9.heap.size = Z at *
      go_wp2_with fail
      go_loopw [14, 15] (fun v t wr => ∃ k : Nat, k ≤ L.length ∧ t = .int .i64 k ∧ v = .int .i64 (lenL (L.take k)) ∧ Below W9.heap.size W9 wr) (fun _ t _ => L.length - (intOf t).toNat)
      case atStart => exact ⟨0, Nat.zero_le _, rfl, rfl, Below.refl _ _⟩
      case round =>
        obtain ⟨k, hk, rfl, rfl, hBk⟩ := hrel
        by_cases hlt : k < L.length
        · obtain ⟨b, o, rfl, hat⟩ := (HLR.out.keep hBk).at (by omega)
          obtain ⟨h1, h2, h3⟩ := hat k _ (List.getElem?_eq_getElem hlt)
          have HT := Lib.hid (lenL_take L k hlt)
          obtain ⟨m1, m2⟩ := HLM.out _ (List.getElem_mem hlt)
          obtain ⟨q1, q2⟩ := lenL_bd (L.take k) 65536 (fun x hx => HLM.out x (List.mem_of_mem_take hx))
          have hle := List.length_take_le k L
          have q3 : lenL (L.take k) ≤ 65536 * 65536 := by omega
          have hk0 : (0 : Int) ≤ k := by omega
          have hk1 : (k : Int) < L.length := by omega
          generalize L[k] = x at *
          generalize lenL (L.take k) = sm at *
          clear hat h1 h3 q2
          go_wp2
          go_roundw
          case rel => exact ⟨k + 1, by omega, by go_num, by rw [HT.out], hBk⟩
          case measure => simp [intOf]; omega
        · obtain rfl : k = L.length := by omega
          rw [List.take_length, HFR.out]
          have HQ := Lib.hid (HQ.out.later hBk)
          have HDR := Lib.hid (HDR.out.keep hBk)
          have z0 := hBk.keep HZ.out
          have HBB := Lib.hid (HBB.out.on hBk)
          have x1 := HQ.out.x1
          have y1 := HQ.out.y1
          have y2 := HQ.out.y2
          have q1 : IntKind.i64.wrap (n1 - cm) = n1 - cm := IntWalk.i64_in _ (by omega)
          have HUse := Lib.hid (fun (w : World) (h : RdI w da D) => used_is D da dc _ w h HDI.out HDU.out)
          have HOf := Lib.hid (fun (w : World) (h : RdI w da D) => of_is D da dc b0 _ w h HDO.out)
          rw [HDL.out] at HUse HOf
          clear hBk
          go_upto_region 18 with fail
          refine wpr ?_
          repeat (go_big_quiet_step ((first | (go_at_call 8; exact Calls.next_of (HUse.out _ (HDR.out.keep (World.below_next _ _)))) | (go_at_call 11; exact Calls.next_of (HOf.out _ (HDR.out.keep (World.below_next _ _)))))))
          refine wqn fun nq => ?_
          have hB := HBB.out.on (World.below_next _ nq)
          clear x1 y1 y2 z0 q1
          go_wp2_with fail
          go_ret
          exact ⟨rfl, hB⟩
end Go.Proofs.Ytnfaciageadlkaa
