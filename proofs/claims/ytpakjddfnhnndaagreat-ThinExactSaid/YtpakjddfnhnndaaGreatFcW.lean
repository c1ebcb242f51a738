/-
  The walk of the law FamilyLookup; a pair of ints opened.
  Conditions: none beyond that the arguments can be read.
-/
import Derived.Test.YtpakjddfnhnndaaGreatFcU
namespace Go.Proofs.YtpakjddfnhnndaaGreat
set_option linter.unusedSimpArgs false
set_option linter.unusedVariables false
set_option maxRecDepth 100000
open Go.ChangeShapes Go.WideShapes Go.ChangeAt Go.RowKit Go.Deep Go.Maps

section
variable {H : Type} {enc : TypeId × Value → H} {w : World}
theorem pair_size64 {cs : Array Value} (h : cs.size = 2) : ∃ c0 c1, cs = #[c0, c1] := by
  obtain ⟨l⟩ := cs
  match l, h with
  | [c0, c1], _ => exact ⟨c0, c1, rfl⟩
set_option maxRecDepth 100000 in
theorem open_pair64 {r : Reach} {b0 : Nat} {v : Value} {d : DataW H} {p : List MemPlace} (hv : Value.okWide Tryz.prog w r b0 74 v) (h : DataW.Trod enc Tryz.prog w 0 (fun _ => true) true 74 v d p) :
    ∃ f n : Int, v = .agg #[.int .i64 f, .int .i64 n] ∧ (-9223372036854775808 ≤ f ∧ f ≤ 9223372036854775807) ∧ (-9223372036854775808 ≤ n ∧ n ≤ 9223372036854775807) := by
  have hce : Tryz.prog.cellsOf 3 = 1 := by kernel_rfl
  obtain ⟨cs, rfl, hsz, _⟩ : ∃ cs, v = .agg cs ∧ cs.size = Tryz.prog.cellsOf 74 ∧ Row.okWide Tryz.prog w r b0 74 cs := by
    simpa [Value.okWide, Tryz.underlying74] using hv
  rw [show Tryz.prog.cellsOf 74 = 2 by kernel_rfl] at hsz
  obtain ⟨c0, c1, rfl⟩ := pair_size64 hsz
  obtain ⟨fuel, hf⟩ := h
  obtain ⟨xs, m, _, _, _, hl, hel⟩ := DataW.trod_array Tryz.underlying74 hf
  have e0 := hel 0 (by omega)
  have e1 := hel 1 (by omega)
  rw [hce] at e0 e1
  have x0 : xs[0]? = some (xs[0]'(by omega)) := List.getElem?_eq_getElem (by omega)
  have x1 : xs[1]? = some (xs[1]'(by omega)) := List.getElem?_eq_getElem (by omega)
  obtain ⟨n0, k0, _, w0⟩ := DataW.trod_int Tryz.underlying3 (e0.trans x0)
  obtain ⟨n1, k1, _, w1⟩ := DataW.trod_int Tryz.underlying3 (e1.trans x1)
  simp [Value.cells] at k0 k1
  subst k0 k1
  exact ⟨n0, n1, rfl, bounds_i64 w0, bounds_i64 w1⟩
end

theorem lookup_r (F : Fam) (i0 : Int) (b0 : Bool) (e0 : Int) (fv : Value) (nm : List UInt8) (p : Int) (w : World) (hF : F.ok) (h : FamV w fv F) (hn : nm.length ≤ maxLen) (hp : -9223372036854775808 ≤ p ∧ p ≤ 9223372036854775807) (he : lookupF F nm p = (i0, b0, e0)) :
    Calls Tryz.prog 36 #[fv, nmV nm, .int .i64 p] w fun e w' => e = .returned (.tuple #[.int .i64 i0, .bool b0, .int .i64 e0]) ∧ Below w.heap.size w w' := by
  have := flookup_is F fv nm p w hF h hn hp
  rwa [he] at this
theorem rlookup_r (F : Fam) (i0 : Int) (b0 : Bool) (e0 : Int) (fv : Value) (nm : List UInt8) (p : Int) (w : World) (hF : F.ok) (h : FamR w fv F) (hn : nm.length ≤ maxLen) (he : lookupF F nm p = (i0, b0, e0)) :
    Calls Tryz.prog 37 #[fv, nmV nm, .int .i64 p] w fun e w' => e = .returned (.tuple #[.int .i64 i0, .bool b0, .int .i64 e0]) ∧ Below w.heap.size w w' := by
  have := rlookup_is F fv nm p w hF h hn
  rwa [he] at this
theorem rrange_r (F : Fam) (L : List E) (e0 : Int) (fv : Value) (nm : List UInt8) (p q : Int) (w : World) (hF : F.ok) (h : FamR w fv F) (hn : nm.length ≤ maxLen) (he : rangeF F nm p q = (L, e0)) :
    Calls Tryz.prog 38 #[fv, nmV nm, .int .i64 p, .int .i64 q] w fun e w' => ∃ sv, e = .returned (.tuple #[sv, .int .i64 e0]) ∧ OwnE w' w.heap.size sv L ∧ Below w.heap.size w w' := by
  have := rrange_is F fv nm p q w hF h hn
  rwa [he] at this
theorem rangeF_short {F : Fam} (hF : F.ok) (nm : List UInt8) (p q : Int) : (rangeF F nm p q).1.length ≤ 46912496118443 := by
  unfold rangeF
  split
  · simp
  rename_i v hv
  split
  · simp
  rename_i hb
  have hk := hF.vol v (getV_mem hv).1
  have hb : inB p q v.n = true := by
    cases h : inB p q v.n
    · exact absurd h hb
    · rfl
  obtain ⟨c1, c2, c3, c4⟩ := (inB_iff _ _ _).1 hb
  have hN := hk.n2
  show (inL v.l p q).length ≤ _
  have h1 := valid_short (inL_valid v.l p q hk.valid)
  omega
set_option maxHeartbeats 8000000 in
theorem law_lookup36 (i : Int) (S : List Step36) (p q : Int) (a : Option Addr) (c : Nat) (w : World) (hi : 0 ≤ i ∧ i ≤ 255) (hr : RdS36 w a S) (hp : -9223372036854775808 ≤ p ∧ p ≤ 9223372036854775807) (hq : -9223372036854775808 ≤ q ∧ q ≤ 9223372036854775807) :
    Calls Tryz.prog 9 #[.int .u8 i, .slice a S.length c, .agg #[.int .i64 p, .int .i64 q]] w fun e w' => e = .returned (.bool true) ∧ Below w.heap.size w w' := by
  have hk0 := (Below.refl w.heap.size w).onAlloc (.cells #[.int .i64 p, .int .i64 q] 74)
  have HK0 := Lib.hid hk0
  replace hr := hr.keep hk0
  have HPB := Lib.hid (Bx.new w _ rfl (.int .i64 p) (.int .i64 q) 74)
  clear hk0
  obtain ⟨n, rfl⟩ := Int.eq_ofNat_of_zero_le hi.1
  have hn : n ≤ 255 := by omega
  have hlen := hr.1
  by_cases h25 : 20 < S.length
  · go_enter Tryz.func9, Tryz.ntmps9
    go_wp2_with fail
    refine (awake36_any _).mono ?_
    rintro e w1 ⟨rfl, hb1⟩
    go_wp2_with fail
    go_ret
    exact ⟨rfl, by first | exact hb1 | exact HK0.out.on hb1⟩
  go_enter Tryz.func9, Tryz.ntmps9
  go_wp2_with fail
  refine (awake36_any _).mono ?_
  rintro e w1 ⟨rfl, hb1⟩
  go_wp2_with fail
  refine (build36_is n S a c _ hn (hr.keep hb1)).mono ?_
  rintro e w2 ⟨F, fv, gv, rfl, hgd, hFN, hf, hg, hb2⟩
  obtain ⟨fa, fc, fm, rfl⟩ := hf.form
  obtain ⟨ra, rn, rc, rfl⟩ := hg.form
  have HL := Lib.hid (LB.new hf hg (hb1.on hb2))
  have HBW := Lib.hid (hb1.on hb2)
  have HGD := Lib.hid hgd
  have HS9 := Lib.hid (small_short hgd.1 hgd.2)
  have hm50 : F.N < 50 := by rw [hFN]; omega
  clear hgd hFN hf hg hb1 hb2 hr
  go_wp2_with fail
  have hPB := HPB.out.later HL.out.B
  generalize (w2.alloc (.cells #[.slice fa F.N fc, .map fm] 28)).alloc (.cells #[.int .i64 F.N, .slice ra rn rc] 45) = W0 at *
  generalize w2.heap.size = T at *
  have HP0 := Lib.hid hPB
  clear hPB
  go_loopw [9, 10] (fun x i wr => ∃ k : Nat, k ≤ 6 ∧ i = .int .i64 k ∧ x = .bool true ∧ Below W0.heap.size W0 wr) (fun _ i _ => 6 - (intOf i).toNat)
  case atStart => exact ⟨0, by omega, rfl, rfl, Below.refl _ _⟩
  case round =>
    obtain ⟨k, hk, rfl, rfl, hB⟩ := hrel
    by_cases hlt : k < 6
    · have HM := Lib.hid (HL.out.later hB)
      have HB0 := Lib.hid hB
      have HP := Lib.hid (HP0.out.later hB)
      obtain ⟨nm, hnm, hnl⟩ : ∃ nm, nameN (k : Int) = nm ∧ nm.length ≤ maxLen := ⟨_, rfl, nameN_max _⟩
      have HNM := Lib.hid hnm
      obtain ⟨l1, l2, l3, hlk⟩ : ∃ x y z, lookupF F nm p = (x, y, z) := ⟨_, _, _, rfl⟩
      obtain ⟨L, r2, hrg⟩ : ∃ L r, rangeF F nm p q = (L, r) := ⟨_, _, rfl⟩
      have HLK := Lib.hid hlk
      have HRG := Lib.hid hrg
      have HLL : Hid (L.length ≤ 46912496118443) := Lib.hid (by have := rangeF_short HGD.out.1 nm p q; rw [hrg] at this; exact this)
      clear hB hnm hlk hrg
      go_wp2_with fail
      refine (rnames_r k nm _ (by omega) HNM.out).mono ?_
      rintro e v1 ⟨rfl, hb⟩
      have HM := Lib.hid (HM.out.later hb)
      have HB0 := Lib.hid (HB0.out.on hb)
      have HP := Lib.hid (HP.out.later hb)
      clear hb
      have b0 := HM.out.fb.c0
      have b1 := HM.out.fb.c1
      have c0 := HM.out.gb.c0
      have c1 := HM.out.gb.c1
      have p0 := HP.out.c0
      have p1 := HP.out.c1
      go_wp2_with fail
      refine (lookup_r F l1 l2 l3 _ nm p _ HGD.out.1 HM.out.fam hnl hp HLK.out).mono ?_
      rintro e v2 ⟨rfl, hb⟩
      clear b0 b1 c0 c1 p0 p1
      have HM := Lib.hid (HM.out.later hb)
      have HB0 := Lib.hid (HB0.out.on hb)
      have HP := Lib.hid (HP.out.later hb)
      clear hb
      have b0 := HM.out.fb.c0
      have b1 := HM.out.fb.c1
      have c0 := HM.out.gb.c0
      have c1 := HM.out.gb.c1
      have p0 := HP.out.c0
      have p1 := HP.out.c1
      go_wp2_with fail
      refine (rlookup_r F l1 l2 l3 _ nm p _ HGD.out.1 HM.out.famr hnl HLK.out).mono ?_
      rintro e v3 ⟨rfl, hb⟩
      clear b0 b1 c0 c1 p0 p1
      have HM := Lib.hid (HM.out.later hb)
      have HB0 := Lib.hid (HB0.out.on hb)
      have HP := Lib.hid (HP.out.later hb)
      clear hb
      have b0 := HM.out.fb.c0
      have b1 := HM.out.fb.c1
      have c0 := HM.out.gb.c0
      have c1 := HM.out.gb.c1
      have p0 := HP.out.c0
      have p1 := HP.out.c1
      go_wp2_with fail
      refine (range_r F L r2 _ nm p q _ HGD.out.1 HM.out.fam hnl hp hq HRG.out).mono ?_
      rintro e v4 ⟨sv, rfl, ho, hb⟩
      obtain ⟨sa, sc, rfl, hs1⟩ := ho.rd HLL.out
      have HS1 := Lib.hid hs1
      clear b0 b1 c0 c1 p0 p1 ho hs1
      have HM := Lib.hid (HM.out.later hb)
      have HB0 := Lib.hid (HB0.out.on hb)
      have HP := Lib.hid (HP.out.later hb)
      clear hb
      have b0 := HM.out.fb.c0
      have b1 := HM.out.fb.c1
      have c0 := HM.out.gb.c0
      have c1 := HM.out.gb.c1
      have p0 := HP.out.c0
      have p1 := HP.out.c1
      go_wp2_with fail
      refine (rrange_r F L r2 _ nm p q _ HGD.out.1 HM.out.famr hnl HRG.out).mono ?_
      rintro e v5 ⟨sv, rfl, ho, hb⟩
      obtain ⟨ya, yc, rfl, hs2⟩ := ho.rd HLL.out
      have HS2 := Lib.hid hs2
      have HS1 := Lib.hid (HS1.out.keep hb)
      clear b0 b1 c0 c1 p0 p1 ho hs2
      have HM := Lib.hid (HM.out.later hb)
      have HB0 := Lib.hid (HB0.out.on hb)
      have HP := Lib.hid (HP.out.later hb)
      clear hb
      have b0 := HM.out.fb.c0
      have b1 := HM.out.fb.c1
      have c0 := HM.out.gb.c0
      have c1 := HM.out.gb.c1
      have p0 := HP.out.c0
      have p1 := HP.out.c1
      clear b0 b1 c0 c1 p0 p1
      go_wp2_with fail
      refine (same_is L L sa ya sc yc true _ (sameB_refl _) HS1.out HS2.out).mono ?_
      rintro e v6 ⟨rfl, hb⟩
      have HB0 := Lib.hid (HB0.out.on hb)
      clear hb
      go_wp2_with fail
      go_roundw
      case rel => exact ⟨k + 1, by omega, by go_num, by simp, HB0.out⟩
      case measure => simp [intOf]; omega
    · obtain rfl : k = 6 := by omega
      have hB9 := HK0.out.on (HL.out.B.on hB)
      go_wp2_with fail
      go_ret
      exact ⟨rfl, hB9⟩
end Go.Proofs.YtpakjddfnhnndaaGreat
