/-
  package alloc: behind, anywhere, pieces.
  Conditions: as each theorem says.
-/
import Derived.Test.YtolhajkbamhdgaaAlE
import Derived.Test.YtolhajkbamhdgaaAlG
import Derived.Test.YtolhajkbamhdgaaAlU
namespace Go.Proofs.Ytolhajkbamhdgaa
set_option linter.unusedSimpArgs false
set_option linter.unusedVariables false
open Go.RowKit

theorem canon_ok {R : List E} (h : Canon R) : ∀ x ∈ R, okB x = true := fun x hx => (h.1 x hx).2
theorem canon_bd {R : List E} (h : Canon R) : ∀ x ∈ R, 0 ≤ x.n ∧ x.n ≤ 65536 := fun x hx => by
  have := (okB_iff x).1 (h.1 x hx).2
  omega
set_option maxRecDepth 100000 in
set_option maxHeartbeats 1000000 in
theorem behind_no (N : Int) (R : List E) (n h : Int) (a : Option Addr) (c : Nat) (w : World) (hr : Rd w a R) (hC : Canon R) (hh : 0 ≤ h ∧ h ≤ 65536) (hf : fitS (fromL R h) n = none) :
    Calls Try.prog 67 #[.agg #[.int .i64 N, .slice a R.length c], .int .i64 n, .int .i64 h] w fun e w' => e = .returned (.tuple #[.slice none 0 0, .bool false]) ∧ Below w.heap.size w w' := by
  have HCF := Lib.hid (fromL_canon R h hC)
  have HCB := Lib.hid (beforeL_canon R h hC)
  have hs := canon_short hC
  have hsF := canon_short HCF.out
  have hsB := canon_short HCB.out
  have hk := (Below.refl w.heap.size w).onAlloc (.cells #[.int .i64 N, .slice a R.length c] 58)
  have HR := Lib.hid (hr.keep hk)
  have HO := Lib.hid (canon_ok hC)
  clear hr hC
  have HF := Lib.hid hf
  clear hf
  go_enter Try.func67, Try.ntmps67
  go_wp2_with fail
  refine (clip_any R h a c _ HR.out HO.out (by omega) hh).mono ?_
  rintro e w1 ⟨v, m, rfl, ho, _, _, hb1⟩
  obtain ⟨a1, c1, rfl, hr1⟩ := ho.rd (by omega)
  have hB1 := hk.on hb1
  clear ho hb1
  go_wp2_with fail
  refine (fit_no _ n a1 c1 _ hr1 HF.out).mono ?_
  rintro e w2 ⟨rfl, hb2⟩
  have hB2 := hB1.on hb2
  clear hb2 hr1
  go_wp2_with fail
  go_ret2
  exact ⟨rfl, hB2⟩
set_option maxRecDepth 100000 in
set_option maxHeartbeats 1000000 in
theorem behind_yes (N : Int) (R : List E) (n h s : Int) (a : Option Addr) (c : Nat) (w : World) (hr : Rd w a R) (hC : Canon R) (hn : 1 ≤ n ∧ n ≤ 65536) (hh : 0 ≤ h ∧ h ≤ 65536) (hf : fitS (fromL R h) n = some s) :
    Calls Try.prog 67 #[.agg #[.int .i64 N, .slice a R.length c], .int .i64 n, .int .i64 h] w fun e w' => ∃ v, e = .returned (.tuple #[v, .bool true]) ∧ OwnE w' w.heap.size v [⟨0, n, s⟩] ∧ Below w.heap.size w w' := by
  have HCF := Lib.hid (fromL_canon R h hC)
  have HCB := Lib.hid (beforeL_canon R h hC)
  have hs := canon_short hC
  have hsF := canon_short HCF.out
  have hsB := canon_short HCB.out
  have hk := (Below.refl w.heap.size w).onAlloc (.cells #[.int .i64 N, .slice a R.length c] 58)
  have HR := Lib.hid (hr.keep hk)
  have HO := Lib.hid (canon_ok hC)
  clear hr hC
  have HF := Lib.hid hf
  clear hf
  go_enter Try.func67, Try.ntmps67
  go_wp2_with fail
  refine (clip_any R h a c _ HR.out HO.out (by omega) hh).mono ?_
  rintro e w1 ⟨v, m, rfl, ho, _, _, hb1⟩
  obtain ⟨a1, c1, rfl, hr1⟩ := ho.rd (by omega)
  have hB1 := hk.on hb1
  clear ho hb1
  go_wp2_with fail
  refine (fit_yes _ n s a1 c1 _ hr1 (canon_ok HCF.out) hn HF.out).mono ?_
  rintro e w2 ⟨v2, rfl, ho2, hb2⟩
  have HO2 := Lib.hid (ho2.mono hB1.size)
  have hB2 := hB1.on hb2
  clear hb2 hr1 ho2
  go_wp2_with fail
  go_ret2
  exact ⟨_, rfl, HO2.out, hB2⟩
set_option maxRecDepth 100000 in
set_option maxHeartbeats 1000000 in
theorem anywhere_no (N : Int) (R : List E) (n h : Int) (a : Option Addr) (c : Nat) (w : World) (hr : Rd w a R) (hf : fitS R n = none) :
    Calls Try.prog 68 #[.agg #[.int .i64 N, .slice a R.length c], .int .i64 n, .int .i64 h] w fun e w' => e = .returned (.tuple #[.slice none 0 0, .bool false]) ∧ Below w.heap.size w w' := by
  have hk := (Below.refl w.heap.size w).onAlloc (.cells #[.int .i64 N, .slice a R.length c] 58)
  have HR := Lib.hid (hr.keep hk)
  have HF := Lib.hid hf
  clear hf hr
  go_enter Try.func68, Try.ntmps68
  go_wp2_with fail
  refine (fit_no _ n a c _ HR.out HF.out).mono ?_
  rintro e w2 ⟨rfl, hb2⟩
  have hB2 := hk.on hb2
  clear hb2
  go_wp2_with fail
  go_ret2
  exact ⟨rfl, hB2⟩
set_option maxRecDepth 100000 in
set_option maxHeartbeats 1000000 in
theorem anywhere_yes (N : Int) (R : List E) (n h s : Int) (a : Option Addr) (c : Nat) (w : World) (hr : Rd w a R) (hC : Canon R) (hn : 1 ≤ n ∧ n ≤ 65536) (hf : fitS R n = some s) :
    Calls Try.prog 68 #[.agg #[.int .i64 N, .slice a R.length c], .int .i64 n, .int .i64 h] w fun e w' => ∃ v, e = .returned (.tuple #[v, .bool true]) ∧ OwnE w' w.heap.size v [⟨0, n, s⟩] ∧ Below w.heap.size w w' := by
  have hk := (Below.refl w.heap.size w).onAlloc (.cells #[.int .i64 N, .slice a R.length c] 58)
  have HR := Lib.hid (hr.keep hk)
  have HF := Lib.hid hf
  have HO := Lib.hid (canon_ok hC)
  clear hf hr hC
  go_enter Try.func68, Try.ntmps68
  go_wp2_with fail
  refine (fit_yes _ n s a c _ HR.out HO.out hn HF.out).mono ?_
  rintro e w2 ⟨v2, rfl, ho2, hb2⟩
  have HO2 := Lib.hid (ho2.mono hk.size)
  have hB2 := hk.on hb2
  clear hb2 ho2
  go_wp2_with fail
  go_ret2
  exact ⟨_, rfl, HO2.out, hB2⟩
/-- The lowest slots from a slot on, and then those before it. -/
def piecesR (R : List E) (n h : Int) : List E := (lowAll (fromL R h) n).1 ++ (lowAll (beforeL R h) (n - min n (lenL (fromL R h)))).1
theorem low_len (l : List E) (n : Int) (hn : 0 ≤ n) (h : Canon l) : (lowAll l n).1.length ≤ 65536 := by
  have h1 := (low_facts l n hn (fun x hx => ((okB_iff x).1 (h.1 x hx).2).1) l.length (Nat.le_refl _)).2
  rw [List.take_length] at h1
  have := canon_short h
  omega
set_option maxRecDepth 100000 in
set_option maxHeartbeats 4000000 in
theorem pieces_any (N : Int) (R : List E) (n h : Int) (a : Option Addr) (c : Nat) (w : World) (hr : Rd w a R) (hC : Canon R) (hn : 0 ≤ n ∧ n ≤ 65536) (hh : 0 ≤ h ∧ h ≤ 65536) :
    Calls Try.prog 69 #[.agg #[.int .i64 N, .slice a R.length c], .int .i64 n, .int .i64 h] w fun e w' => ∃ v, e = .returned (.tuple #[v, .bool true]) ∧ OwnE w' w.heap.size v (piecesR R n h) ∧ Below w.heap.size w w' := by
  obtain ⟨i0, hi, hz0, hz1, hz2⟩ := info_parts infoE
  have HCF := Lib.hid (fromL_canon R h hC)
  have HCB := Lib.hid (beforeL_canon R h hC)
  have hs := canon_short hC
  have hsF := canon_short HCF.out
  have hsB := canon_short HCB.out
  have hk := (Below.refl w.heap.size w).onAlloc (.cells #[.int .i64 N, .slice a R.length c] 58)
  have HR := Lib.hid (hr.keep hk)
  have HO := Lib.hid (canon_ok hC)
  clear hr hC
  obtain ⟨n0, n1⟩ := hn
  obtain ⟨z0, _⟩ := lenL_bound _ (canon_ok HCF.out)
  have HZ0 : Hid (0 ≤ n - min n (lenL (fromL R h)) ∧ n - min n (lenL (fromL R h)) ≤ 65536) := Lib.hid (by omega)
  have hl1 := low_len _ n n0 HCF.out
  have hl2 := low_len _ (n - min n (lenL (fromL R h))) (by omega) HCB.out
  have HP : Hid (piecesR R n h = (lowAll (fromL R h) n).1 ++ (lowAll (beforeL R h) (n - min n (lenL (fromL R h)))).1) := Lib.hid rfl
  have hzb := lenL_nonneg HCF.out
  have hzm : lenL (fromL R h) ≤ 65536 := by
    rw [lenL_canon _ HCF.out]
    have := area_le (hasB (fromL R h)) 65536
    omega
  generalize hF : fromL R h = F at *
  generalize hB : beforeL R h = B at *
  have HF := Lib.hid hF
  have HB := Lib.hid hB
  clear hF hB
  go_enter Try.func69, Try.ntmps69
  go_wp2_with fail
  have hcon := clip_any R h a c _ HR.out HO.out (by omega) hh
  rw [HF.out, HB.out] at hcon
  refine hcon.mono ?_
  rintro e w1 ⟨v, m, rfl, ho, hm, _, hb1⟩
  obtain ⟨a1, c1, rfl, hr1⟩ := ho.rd (by omega)
  obtain ⟨a2, c2, rfl, hr2⟩ := hm.rd (by omega)
  have hB1 := hk.on hb1
  have HR1 := Lib.hid hr1
  have HR2 := Lib.hid hr2
  clear ho hb1 hm hcon hr1 hr2
  go_wp2_with fail
  refine (lowest_any F n a1 c1 _ HR1.out (canon_ok HCF.out) (by omega) ⟨n0, n1⟩).mono ?_
  rintro e w2 ⟨v2, rfl, ho2, hb2⟩
  have HR1 := Lib.hid (HR1.out.keep hb2)
  have HR2 := Lib.hid (HR2.out.keep hb2)
  have HO2 := Lib.hid (ho2.mono hB1.size)
  have hB2 := hB1.on hb2
  clear ho2 hb2
  go_wp2_with fail
  refine (asize_any F a1 c1 _ HR1.out (canon_bd HCF.out) (by omega)).mono ?_
  rintro e w3 ⟨rfl, hb3⟩
  have HR2 := Lib.hid (HR2.out.keep hb3)
  have HO3 := Lib.hid (HO2.out.keep hb3)
  have hB3 := hB2.on hb3
  clear hb3
  generalize hz : lenL F = z at *
  have HZ := Lib.hid hz
  clear hz
  have q1 : IntKind.i64.wrap (n - min n z) = n - min n z := IntWalk.i64_in _ (by omega)
  go_wp2_with fail
  refine (lowest_any B (n - min n z) a2 c2 _ HR2.out (canon_ok HCB.out) (by omega) HZ0.out).mono ?_
  rintro e w4 ⟨v4, rfl, ho4, hb4⟩
  have hlb := hl2
  generalize hL2 : (lowAll B (n - min n z)).1 = L2 at *
  have HL2 := Lib.hid hL2
  obtain ⟨a4, c4, rfl, hr4⟩ := ho4.rd (by omega)
  have HS := Lib.hid hr4.source
  have HO4 := Lib.hid (HO3.out.keep hb4)
  have hB4 := hB3.on hb4
  have hsz4 := hB4.size
  generalize hL1 : (lowAll F n).1 = L1 at *
  have HL1 := Lib.hid hL1
  clear hb4 ho4 hr4 hL2 hL1 q1
  go_wp2_with (at_builtin; refine wpList_append_xs _ rfl _ _ 32 rfl w.heap.size 41 i0 (.agg #[.int .i64 0, .int .i64 0, .int .i64 0]) 3 24 Try.underlying32 hi hz0 hz1 hz2 rfl (by decide) _ _ _ rfl HO4.out _ _ _ _ rfl HS.out (by first | omega | (simp only [List.length_nil, List.length_append, List.length_cons]; omega)) (by first | (simp only [maxLen]; omega) | (simp only [maxLen, List.length_nil, List.length_append, List.length_cons]; omega)) (by first | omega | (simp only [World.size_alloc]; omega)) ?_; intro v1 w1 hown1 hgrow1 hwhere1)
  have HB6 := Lib.hid (hB4.onGrow hgrow1 (fun j hj => (HO4.out.lt j hj).1))
  have HO6 := Lib.hid (OwnE.append hown1 rfl)
  clear hown1 hgrow1 hwhere1
  go_wp2_with fail
  go_ret2
  exact ⟨_, rfl, by rw [HP.out]; exact HO6.out, HB6.out⟩
end Go.Proofs.Ytolhajkbamhdgaa
