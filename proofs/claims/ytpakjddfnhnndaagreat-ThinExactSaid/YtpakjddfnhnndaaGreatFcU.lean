/-
  The walk of the law FamilyScript.
  Conditions: none beyond that the arguments can be read.
-/
import Derived.Test.YtpakjddfnhnndaaGreatFcT
namespace Go.Proofs.YtpakjddfnhnndaaGreat
set_option linter.unusedSimpArgs false
set_option linter.unusedVariables false
set_option maxRecDepth 100000
open Go.RowKit Go.Maps

/-- The families of a law: f in block T, g behind it. -/
structure LB (w W : World) (T : Nat) (u v x y : Value) (F : Fam) : Prop where
  fb : Bx W T 28 u v
  gb : Bx W (T + 1) 45 x y
  fam : FamV W (.agg #[u, v]) F
  famr : FamR W (.agg #[x, y]) F
  B : Below w.heap.size w W
  le : w.heap.size ≤ T
theorem LB.later {w W W' : World} {T : Nat} {u v x y : Value} {F : Fam} (h : LB w W T u v x y F) (hb : Below W.heap.size W W') : LB w W' T u v x y F :=
  ⟨h.fb.later hb, h.gb.later hb, h.fam.keep hb, h.famr.keep hb, h.B.on hb, h.le⟩
theorem LB.new {w w2 : World} {u v x y : Value} {F : Fam} (hf : FamV w2 (.agg #[u, v]) F) (hg : FamR w2 (.agg #[x, y]) F) (hb : Below w.heap.size w w2) : LB w ((w2.alloc (.cells #[u, v] 28)).alloc (.cells #[x, y] 45)) w2.heap.size u v x y F := by
  have hk := ((Below.refl w2.heap.size w2).onAlloc (.cells #[u, v] 28)).onAlloc (.cells #[x, y] 45)
  exact ⟨(Bx.new w2 _ rfl u v _).later ((Below.refl _ _).onAlloc _), Bx.new _ _ (by simp) x y _, hf.keep hk, hg.keep hk, hb.on hk, hb.size⟩
set_option maxHeartbeats 4000000 in
theorem law_script36 (i : Int) (S : List Step36) (a : Option Addr) (c : Nat) (w : World) (hi : 0 ≤ i ∧ i ≤ 255) (hr : RdS36 w a S) :
    Calls Tryz.prog 4 #[.int .u8 i, .slice a S.length c] w fun e w' => e = .returned (.bool true) ∧ Below w.heap.size w w' := by
  obtain ⟨n, rfl⟩ := Int.eq_ofNat_of_zero_le hi.1
  have hn : n ≤ 255 := by omega
  have hlen := hr.1
  by_cases h25 : 25 < S.length
  · go_enter Tryz.func4, Tryz.ntmps4
    go_wp2_with fail
    refine (awake36_any _).mono ?_
    rintro e w1 ⟨rfl, hb1⟩
    go_wp2_with fail
    go_ret
    exact ⟨rfl, by first | exact hb1 | exact HK0.out.on hb1⟩
  go_enter Tryz.func4, Tryz.ntmps4
  go_wp2_with fail
  refine (awake36_any _).mono ?_
  rintro e w1 ⟨rfl, hb1⟩
  go_wp2_with fail
  refine (build36_is n S a c _ hn (hr.keep hb1)).mono ?_
  rintro e w2 ⟨F, fv, gv, rfl, hgd, hFN, hf, hg, hb2⟩
  obtain ⟨fa, fc, fm, rfl⟩ := hf.form
  obtain ⟨ra, rn, rc, rfl⟩ := hg.form
  have HL := Lib.hid (LB.new hf hg (hb1.on hb2))
  have HBW := Lib.hid (hb1.on hb2)
  have HGD := Lib.hid hgd
  have HS9 := Lib.hid (small_short hgd.1 hgd.2)
  have hm50 : F.N < 50 := by rw [hFN]; omega
  clear hgd hFN hf hg hb1 hb2 hr
  have hB := HL.out.B
  go_wp2_with fail
  go_ret
  exact ⟨rfl, hB⟩
end Go.Proofs.YtpakjddfnhnndaaGreat
