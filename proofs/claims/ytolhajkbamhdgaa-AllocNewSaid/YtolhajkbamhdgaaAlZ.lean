/-
  The walk of the law AllocNew.
  Conditions: none beyond that the arguments can be read.
-/
import Derived.Test.YtolhajkbamhdgaaAlX
namespace Go.Proofs.Ytolhajkbamhdgaa
set_option linter.unusedSimpArgs false
set_option linter.unusedVariables false
open Go.RowKit

theorem rd_nil (w : World) (a : Option Addr) : Rd w a [] := ⟨by simp, .inl rfl⟩
theorem area_zeros (n : Nat) : area (freeF (List.replicate n false)) n = n := by
  have h : ∀ k, k ≤ n → area (freeF (List.replicate n false)) k = k := fun k => by
    induction k with
    | zero => intro _; rfl
    | succ k ih =>
      intro hk
      simp only [area]
      rw [ih (by omega), freeF_get _ k (by simp; omega)]
      simp
  exact h n (Nat.le_refl _)
theorem lenL_zeros (n : Nat) (hn : n ≤ 65536) : lenL (freeR (List.replicate n false)) = n := by
  rw [lenL_free _ (by simpa using hn), List.length_replicate, area_zeros]
theorem maxL_zeros (n : Nat) (hn : n ≤ 65536) : maxL (freeR (List.replicate n false)) = n := by
  rw [freeR_zeros n hn]
  by_cases h0 : n = 0
  · subst h0; rfl
  · rw [if_neg h0]
    simp [maxL]
theorem alargest_is (N : Int) (R : List E) (z : Int) (a : Option Addr) (c : Nat) (w : World) (hz : maxL R = z) (hr : Rd w a R) (hC : Canon R) :
    Calls Try.prog 38 #[.agg #[.int .i64 N, .slice a R.length c]] w fun e w' => e = .returned (.int .i64 z) ∧ Below w.heap.size w w' := by
  subst hz
  exact alargest_any N R a c w hr hC
/-- m lies in block X, the zero value in block Z. -/
structure NwS35 (w0 W : World) (X Z : Nat) (u v : Value) : Prop where
  t0 : W.cell? ⟨X, 0, none⟩ = some u
  t1 : W.cell? ⟨X, 1, none⟩ = some v
  z0 : W.cell? ⟨Z, 0, none⟩ = some (.int .i64 0)
  z1 : W.cell? ⟨Z, 1, none⟩ = some (.slice none 0 0)
  B : Below w0.heap.size w0 W
theorem NwS35.later {w0 W W' : World} {X Z : Nat} {u v : Value} (h : NwS35 w0 W X Z u v) (hb : Below W.heap.size W W') : NwS35 w0 W' X Z u v := ⟨hb.keep h.t0, hb.keep h.t1, hb.keep h.z0, hb.keep h.z1, h.B.on hb⟩
set_option maxRecDepth 100000 in
set_option maxHeartbeats 4000000 in
theorem law_new35 (i : Int) (w : World) (hi : -9223372036854775808 ≤ i ∧ i ≤ 9223372036854775807) :
    Calls Try.prog 10 #[.int .i64 i] w fun e w' => e = .returned (.bool true) ∧ Below w.heap.size w w' := by
  by_cases h : 0 ≤ i ∧ i ≤ 65536
  · obtain ⟨n, rfl⟩ := Int.eq_ofNat_of_zero_le h.1
    have hn : n ≤ 65536 := by omega
    clear h hi
    go_enter Try.func10, Try.ntmps10
    go_wp2_with fail
    refine (awake35_any _).mono ?_
    rintro e w1 ⟨rfl, hb1⟩
    go_wp2_with fail
    refine (anew_any n _ hn).mono ?_
    rintro e w2 ⟨a, c, rfl, hr, _, hb2⟩
    have hB2 := hb1.on hb2
    have HR := Lib.hid hr
    have HC := Lib.hid (freeR_canon (List.replicate n false))
    have HZ := Lib.hid (lenL_zeros n hn)
    have HX := Lib.hid (maxL_zeros n hn)
    generalize freeR (List.replicate n false) = R at *
    clear hr hb1 hb2
    have hk0 := ((Below.refl w2.heap.size w2).onAlloc (.cells #[(.int .i64 n), (.slice a R.length c)] 58)).onAlloc (.cells #[.int .i64 0, .slice none 0 0] 58)
    have HV : Hid (NwS35 w ((w2.alloc (.cells #[(.int .i64 n), (.slice a R.length c)] 58)).alloc (.cells #[.int .i64 0, .slice none 0 0] 58)) w2.heap.size (w2.heap.size + 1) (.int .i64 n) (.slice a R.length c)) := Lib.hid ⟨by simp, by simp, by simp, by simp, hB2.on hk0⟩
    have HK := Lib.hid hk0
    clear hk0 hB2
    have t0 := HV.out.t0
    have t1 := HV.out.t1
    have z0 := HV.out.z0
    have z1 := HV.out.z1
    go_wp2_with fail
    generalize (w2.alloc (.cells #[(.int .i64 n), (.slice a R.length c)] 58)).alloc (.cells #[.int .i64 0, .slice none 0 0] 58) = W3 at *
    refine (atake_space 0 [] 1 0 none 0 _ (by omega) (rd_nil _ _) canon_nil (by decide) (by decide)).mono ?_
    rintro e w3 ⟨rfl, hb⟩
    have HV := Lib.hid (HV.out.later hb)
    have HK := Lib.hid (HK.out.on hb)
    clear t0 t1 z0 z1 hb
    have t0 := HV.out.t0
    have t1 := HV.out.t1
    have z0 := HV.out.z0
    have z1 := HV.out.z1
    have hb := (Below.refl w3.heap.size w3).onAlloc (.cells #[.int .i64 0, .slice none 0 0] 58)
    have HV := Lib.hid (HV.out.later hb)
    have HK := Lib.hid (HK.out.on hb)
    clear t0 t1 z0 z1 hb
    have t0 := HV.out.t0
    have t1 := HV.out.t1
    have z0 := HV.out.z0
    have z1 := HV.out.z1
    go_wp2_with fail
    refine (atake_zero 0 [] 0 none 0 _ (by omega) (rd_nil _ _) canon_nil (by decide)).mono ?_
    rintro e w4 ⟨rfl, hb⟩
    have HV := Lib.hid (HV.out.later hb)
    have HK := Lib.hid (HK.out.on hb)
    clear t0 t1 z0 z1 hb
    have t0 := HV.out.t0
    have t1 := HV.out.t1
    have z0 := HV.out.z0
    have z1 := HV.out.z1
    have hb := (Below.refl w4.heap.size w4).onAlloc (.cells #[.int .i64 0, .slice none 0 0] 58)
    have HV := Lib.hid (HV.out.later hb)
    have HK := Lib.hid (HK.out.on hb)
    clear t0 t1 z0 z1 hb
    have t0 := HV.out.t0
    have t1 := HV.out.t1
    have z0 := HV.out.z0
    have z1 := HV.out.z1
    go_wp2_with fail
    refine (aslots_any 0 none 0 0 _).mono ?_
    rintro e w5 ⟨rfl, hb⟩
    have HV := Lib.hid (HV.out.later hb)
    have HK := Lib.hid (HK.out.on hb)
    clear t0 t1 z0 z1 hb
    have t0 := HV.out.t0
    have t1 := HV.out.t1
    have z0 := HV.out.z0
    have z1 := HV.out.z1
    go_wp2_with fail
    refine (afree_is 0 [] 0 none 0 _ rfl (rd_nil _ _) canon_nil).mono ?_
    rintro e w6 ⟨rfl, hb⟩
    have HV := Lib.hid (HV.out.later hb)
    have HK := Lib.hid (HK.out.on hb)
    clear t0 t1 z0 z1 hb
    have t0 := HV.out.t0
    have t1 := HV.out.t1
    have z0 := HV.out.z0
    have z1 := HV.out.z1
    go_wp2_with fail
    refine (alargest_is 0 [] 0 none 0 _ rfl (rd_nil _ _) canon_nil).mono ?_
    rintro e w7 ⟨rfl, hb⟩
    have HV := Lib.hid (HV.out.later hb)
    have HK := Lib.hid (HK.out.on hb)
    clear t0 t1 z0 z1 hb
    have t0 := HV.out.t0
    have t1 := HV.out.t1
    have z0 := HV.out.z0
    have z1 := HV.out.z1
    go_wp2_with fail
    refine (aruns_any 0 [] none 0 _ (rd_nil _ _) (by simp)).mono ?_
    rintro e w8 ⟨v8, rfl, ho8, hb⟩
    obtain ⟨a8, c8, rfl, _⟩ := ho8.rd (by simp)
    clear ho8
    have HV := Lib.hid (HV.out.later hb)
    have HK := Lib.hid (HK.out.on hb)
    clear t0 t1 z0 z1 hb
    have t0 := HV.out.t0
    have t1 := HV.out.t1
    have z0 := HV.out.z0
    have z1 := HV.out.z1
    go_wp2_with fail
    refine (is_is 0 [] 0 false none 0 _ rfl (rd_nil _ _) canon_nil (by omega)).mono ?_
    rintro e w9 ⟨rfl, hb⟩
    have HV := Lib.hid (HV.out.later hb)
    have HK := Lib.hid (HK.out.on hb)
    clear t0 t1 z0 z1 hb
    have t0 := HV.out.t0
    have t1 := HV.out.t1
    have z0 := HV.out.z0
    have z1 := HV.out.z1
    go_wp2_with fail
    refine (aslots_any n a R.length c _).mono ?_
    rintro e w10 ⟨rfl, hb⟩
    have HV := Lib.hid (HV.out.later hb)
    have HK := Lib.hid (HK.out.on hb)
    clear t0 t1 z0 z1 hb
    have t0 := HV.out.t0
    have t1 := HV.out.t1
    have z0 := HV.out.z0
    have z1 := HV.out.z1
    go_wp2_with fail
    refine (afree_is n R n a c _ HZ.out (HR.out.keep HK.out) HC.out).mono ?_
    rintro e w11 ⟨rfl, hb⟩
    have HV := Lib.hid (HV.out.later hb)
    have HK := Lib.hid (HK.out.on hb)
    clear t0 t1 z0 z1 hb
    have t0 := HV.out.t0
    have t1 := HV.out.t1
    have z0 := HV.out.z0
    have z1 := HV.out.z1
    go_wp2_with fail
    refine (alargest_is n R n a c _ HX.out (HR.out.keep HK.out) HC.out).mono ?_
    rintro e w12 ⟨rfl, hb⟩
    have hB := HV.out.B.on hb
    go_wp2_with fail
    go_ret
    exact ⟨rfl, hB⟩
  · have h' : i < 0 ∨ 65536 < i := by omega
    go_enter Try.func10, Try.ntmps10
    go_wp2_with fail
    refine (awake35_any _).mono ?_
    rintro e w1 ⟨rfl, hb1⟩
    go_wp2_with fail
    refine (anew_no i _ h').mono ?_
    rintro e w2 ⟨rfl, hb2⟩
    have hB2 := hb1.on hb2
    clear hb1 hb2
    have hk0 := ((Below.refl w2.heap.size w2).onAlloc (.cells #[(.int .i64 0), (.slice none 0 0)] 58)).onAlloc (.cells #[.int .i64 0, .slice none 0 0] 58)
    have HV : Hid (NwS35 w ((w2.alloc (.cells #[(.int .i64 0), (.slice none 0 0)] 58)).alloc (.cells #[.int .i64 0, .slice none 0 0] 58)) w2.heap.size (w2.heap.size + 1) (.int .i64 0) (.slice none 0 0)) := Lib.hid ⟨by simp, by simp, by simp, by simp, hB2.on hk0⟩
    have HK := Lib.hid hk0
    clear hk0 hB2
    have t0 := HV.out.t0
    have t1 := HV.out.t1
    have z0 := HV.out.z0
    have z1 := HV.out.z1
    go_wp2_with fail
    generalize (w2.alloc (.cells #[(.int .i64 0), (.slice none 0 0)] 58)).alloc (.cells #[.int .i64 0, .slice none 0 0] 58) = W3 at *
    refine (atake_space 0 [] 1 0 none 0 _ (by omega) (rd_nil _ _) canon_nil (by decide) (by decide)).mono ?_
    rintro e w3 ⟨rfl, hb⟩
    have HV := Lib.hid (HV.out.later hb)
    have HK := Lib.hid (HK.out.on hb)
    clear t0 t1 z0 z1 hb
    have t0 := HV.out.t0
    have t1 := HV.out.t1
    have z0 := HV.out.z0
    have z1 := HV.out.z1
    have hb := (Below.refl w3.heap.size w3).onAlloc (.cells #[.int .i64 0, .slice none 0 0] 58)
    have HV := Lib.hid (HV.out.later hb)
    have HK := Lib.hid (HK.out.on hb)
    clear t0 t1 z0 z1 hb
    have t0 := HV.out.t0
    have t1 := HV.out.t1
    have z0 := HV.out.z0
    have z1 := HV.out.z1
    go_wp2_with fail
    refine (atake_zero 0 [] 0 none 0 _ (by omega) (rd_nil _ _) canon_nil (by decide)).mono ?_
    rintro e w4 ⟨rfl, hb⟩
    have HV := Lib.hid (HV.out.later hb)
    have HK := Lib.hid (HK.out.on hb)
    clear t0 t1 z0 z1 hb
    have t0 := HV.out.t0
    have t1 := HV.out.t1
    have z0 := HV.out.z0
    have z1 := HV.out.z1
    have hb := (Below.refl w4.heap.size w4).onAlloc (.cells #[.int .i64 0, .slice none 0 0] 58)
    have HV := Lib.hid (HV.out.later hb)
    have HK := Lib.hid (HK.out.on hb)
    clear t0 t1 z0 z1 hb
    have t0 := HV.out.t0
    have t1 := HV.out.t1
    have z0 := HV.out.z0
    have z1 := HV.out.z1
    go_wp2_with fail
    refine (aslots_any 0 none 0 0 _).mono ?_
    rintro e w5 ⟨rfl, hb⟩
    have HV := Lib.hid (HV.out.later hb)
    have HK := Lib.hid (HK.out.on hb)
    clear t0 t1 z0 z1 hb
    have t0 := HV.out.t0
    have t1 := HV.out.t1
    have z0 := HV.out.z0
    have z1 := HV.out.z1
    go_wp2_with fail
    refine (afree_is 0 [] 0 none 0 _ rfl (rd_nil _ _) canon_nil).mono ?_
    rintro e w6 ⟨rfl, hb⟩
    have HV := Lib.hid (HV.out.later hb)
    have HK := Lib.hid (HK.out.on hb)
    clear t0 t1 z0 z1 hb
    have t0 := HV.out.t0
    have t1 := HV.out.t1
    have z0 := HV.out.z0
    have z1 := HV.out.z1
    go_wp2_with fail
    refine (alargest_is 0 [] 0 none 0 _ rfl (rd_nil _ _) canon_nil).mono ?_
    rintro e w7 ⟨rfl, hb⟩
    have HV := Lib.hid (HV.out.later hb)
    have HK := Lib.hid (HK.out.on hb)
    clear t0 t1 z0 z1 hb
    have t0 := HV.out.t0
    have t1 := HV.out.t1
    have z0 := HV.out.z0
    have z1 := HV.out.z1
    go_wp2_with fail
    refine (aruns_any 0 [] none 0 _ (rd_nil _ _) (by simp)).mono ?_
    rintro e w8 ⟨v8, rfl, ho8, hb⟩
    obtain ⟨a8, c8, rfl, _⟩ := ho8.rd (by simp)
    clear ho8
    have HV := Lib.hid (HV.out.later hb)
    have HK := Lib.hid (HK.out.on hb)
    clear t0 t1 z0 z1 hb
    have t0 := HV.out.t0
    have t1 := HV.out.t1
    have z0 := HV.out.z0
    have z1 := HV.out.z1
    go_wp2_with fail
    refine (is_is 0 [] 0 false none 0 _ rfl (rd_nil _ _) canon_nil (by omega)).mono ?_
    rintro e w9 ⟨rfl, hb⟩
    have HV := Lib.hid (HV.out.later hb)
    have HK := Lib.hid (HK.out.on hb)
    clear t0 t1 z0 z1 hb
    have t0 := HV.out.t0
    have t1 := HV.out.t1
    have z0 := HV.out.z0
    have z1 := HV.out.z1
    rcases h' with h1 | h1
    · go_wp2_with fail
      go_ret
      exact ⟨rfl, HV.out.B⟩
    · go_wp2_with fail
      go_ret
      exact ⟨rfl, HV.out.B⟩
end Go.Proofs.Ytolhajkbamhdgaa
