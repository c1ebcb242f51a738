/-
  The walk of the law FamilyValues; two steps opened.
  Conditions: none beyond that the arguments can be read.
-/
import Derived.Test.YtpakjddfnhnndaaGreatFcX
namespace Go.Proofs.YtpakjddfnhnndaaGreat
set_option linter.unusedSimpArgs false
set_option linter.unusedVariables false
set_option maxRecDepth 100000
open Go.ChangeShapes Go.WideShapes Go.ChangeAt Go.RowKit Go.Deep Go.Maps

abbrev val2 (s t : Step36) : Value := .agg #[.int .u8 s.k, .int .u8 s.v, .int .u8 s.o, .int .u8 s.a, .int .u8 s.n, .int .u8 s.s, .int .u8 t.k, .int .u8 t.v, .int .u8 t.o, .int .u8 t.a, .int .u8 t.n, .int .u8 t.s]
section
variable {H : Type} {enc : TypeId × Value → H} {w : World}
set_option maxRecDepth 100000 in
theorem open_two36 {r : Reach} {b0 : Nat} {v : Value} {d : DataW H} {p : List MemPlace} (hv : Value.okWide Tryz.prog w r b0 70 v) (h : DataW.Trod enc Tryz.prog w 0 (fun _ => true) true 70 v d p) :
    ∃ s t : Step36, v = val2 s t ∧ s.ok ∧ t.ok := by
  have hce : Tryz.prog.cellsOf 50 = 6 := by kernel_rfl
  obtain ⟨cs, rfl, hsz, _⟩ : ∃ cs, v = .agg cs ∧ cs.size = Tryz.prog.cellsOf 70 ∧ Row.okWide Tryz.prog w r b0 70 cs := by
    simpa [Value.okWide, Tryz.underlying70] using hv
  rw [show Tryz.prog.cellsOf 70 = 12 by kernel_rfl] at hsz
  obtain ⟨fuel, hf⟩ := h
  obtain ⟨xs, m, _, _, _, hl, hel⟩ := DataW.trod_array Tryz.underlying70 hf
  have e0 := hel 0 (by omega)
  have e1 := hel 1 (by omega)
  rw [hce] at e0 e1
  have x0 : xs[0]? = some (xs[0]'(by omega)) := List.getElem?_eq_getElem (by omega)
  have x1 : xs[1]? = some (xs[1]'(by omega)) := List.getElem?_eq_getElem (by omega)
  rw [x0] at e0
  rw [x1] at e1
  obtain ⟨s, hs, hso⟩ := step_trod e0
  obtain ⟨t, ht, hto⟩ := step_trod e1
  obtain ⟨l⟩ := cs
  have hl12 : l.length = 12 := hsz
  match l, hl12, hs, ht with
  | [c0, c1, c2, c3, c4, c5, c6, c7, c8, c9, c10, c11], _, hs, ht =>
    replace hs : [c0, c1, c2, c3, c4, c5] = [.int .u8 s.k, .int .u8 s.v, .int .u8 s.o, .int .u8 s.a, .int .u8 s.n, .int .u8 s.s] := hs
    replace ht : [c6, c7, c8, c9, c10, c11] = [.int .u8 t.k, .int .u8 t.v, .int .u8 t.o, .int .u8 t.a, .int .u8 t.n, .int .u8 t.s] := ht
    simp only [List.cons.injEq, and_true] at hs ht
    obtain ⟨rfl, rfl, rfl, rfl, rfl, rfl⟩ := hs
    obtain ⟨rfl, rfl, rfl, rfl, rfl, rfl⟩ := ht
    exact ⟨s, t, rfl, hso, hto⟩
end
theorem rapply_r (F G : Fam) (L : List E) (e0 : Int) (gv : Value) (s : Step36) (w : World) (hF : F.ok) (h : FamR w gv F) (hs : s.ok) (he : stepF F s = (G, L, e0)) :
    Calls Tryz.prog 35 #[gv, s.val] w (RPost3 w G L e0) := by
  have := rapply_is F gv s w hF h hs
  rwa [he] at this
/-- The second step of the pair. -/
structure SX6 (W : World) (X : Nat) (s : Step36) : Prop where
  s0 : W.cell? ⟨X, 6, none⟩ = some (.int .u8 s.k)
  s1 : W.cell? ⟨X, 7, none⟩ = some (.int .u8 s.v)
  s2 : W.cell? ⟨X, 8, none⟩ = some (.int .u8 s.o)
  s3 : W.cell? ⟨X, 9, none⟩ = some (.int .u8 s.a)
  s4 : W.cell? ⟨X, 10, none⟩ = some (.int .u8 s.n)
  s5 : W.cell? ⟨X, 11, none⟩ = some (.int .u8 s.s)
theorem SX6.later {W W' : World} {X : Nat} {s : Step36} (h : SX6 W X s) (hb : Below W.heap.size W W') : SX6 W' X s :=
  ⟨hb.keep h.s0, hb.keep h.s1, hb.keep h.s2, hb.keep h.s3, hb.keep h.s4, hb.keep h.s5⟩
theorem two_new (V : World) (s t : Step36) (ty : TypeId) : SX (V.alloc (.cells #[.int .u8 s.k, .int .u8 s.v, .int .u8 s.o, .int .u8 s.a, .int .u8 s.n, .int .u8 s.s, .int .u8 t.k, .int .u8 t.v, .int .u8 t.o, .int .u8 t.a, .int .u8 t.n, .int .u8 t.s] ty)) V.heap.size s ∧
    SX6 (V.alloc (.cells #[.int .u8 s.k, .int .u8 s.v, .int .u8 s.o, .int .u8 s.a, .int .u8 s.n, .int .u8 s.s, .int .u8 t.k, .int .u8 t.v, .int .u8 t.o, .int .u8 t.a, .int .u8 t.n, .int .u8 t.s] ty)) V.heap.size t :=
  ⟨⟨by simp, by simp, by simp, by simp, by simp, by simp⟩, ⟨by simp, by simp, by simp, by simp, by simp, by simp⟩⟩
set_option maxHeartbeats 16000000 in
theorem law_values36 (i : Int) (S : List Step36) (s t : Step36) (a : Option Addr) (c : Nat) (w : World) (hi : 0 ≤ i ∧ i ≤ 255) (hr : RdS36 w a S) (hs : s.ok) (ht : t.ok) :
    Calls Tryz.prog 8 #[.int .u8 i, .slice a S.length c, val2 s t] w fun e w' => e = .returned (.bool true) ∧ Below w.heap.size w w' := by
  have HSO := Lib.hid hs
  have HTO := Lib.hid ht
  have hk0 := (Below.refl w.heap.size w).onAlloc (.cells #[.int .u8 s.k, .int .u8 s.v, .int .u8 s.o, .int .u8 s.a, .int .u8 s.n, .int .u8 s.s, .int .u8 t.k, .int .u8 t.v, .int .u8 t.o, .int .u8 t.a, .int .u8 t.n, .int .u8 t.s] 70)
  obtain ⟨h1, h2⟩ := two_new w s t 70
  have HK0 := Lib.hid hk0
  replace hr := hr.keep hk0
  have HSX := Lib.hid h1
  have HTX := Lib.hid h2
  clear hk0 h1 h2 hs ht
  obtain ⟨n, rfl⟩ := Int.eq_ofNat_of_zero_le hi.1
  have hn : n ≤ 255 := by omega
  have hlen := hr.1
  by_cases h25 : 20 < S.length
  · go_enter Tryz.func8, Tryz.ntmps8
    go_wp2_with fail
    refine (awake36_any _).mono ?_
    rintro e w1 ⟨rfl, hb1⟩
    go_wp2_with fail
    go_ret
    exact ⟨rfl, by first | exact hb1 | exact HK0.out.on hb1⟩
  go_enter Tryz.func8, Tryz.ntmps8
  go_wp2_with fail
  refine (awake36_any _).mono ?_
  rintro e w1 ⟨rfl, hb1⟩
  go_wp2_with fail
  refine (build36_is n S a c _ hn (hr.keep hb1)).mono ?_
  rintro e w2 ⟨F, fv, gv, rfl, hgd, hFN, hf, hg, hb2⟩
  obtain ⟨fa, fc, fm, rfl⟩ := hf.form
  obtain ⟨ra, rn, rc, rfl⟩ := hg.form
  have HL := Lib.hid (LB.new hf hg (hb1.on hb2))
  have HBW := Lib.hid (hb1.on hb2)
  have HGD := Lib.hid hgd
  have HS9 := Lib.hid (small_short hgd.1 hgd.2)
  have hm50 : F.N < 50 := by rw [hFN]; omega
  clear hgd hFN hf hg hb1 hb2 hr
  have HSX := Lib.hid (HSX.out.later HL.out.B)
  have HTX := Lib.hid (HTX.out.later HL.out.B)
  have b0 := HL.out.fb.c0
  have b1 := HL.out.fb.c1
  have c0 := HL.out.gb.c0
  have c1 := HL.out.gb.c1
  have q0 := HSX.out.s0
  have q1 := HSX.out.s1
  have q2 := HSX.out.s2
  have q3 := HSX.out.s3
  have q4 := HSX.out.s4
  have q5 := HSX.out.s5
  have t0 := HTX.out.s0
  have t1 := HTX.out.s1
  have t2 := HTX.out.s2
  have t3 := HTX.out.s3
  have t4 := HTX.out.s4
  have t5 := HTX.out.s5
  go_wp2_with fail
  obtain ⟨G, L, x0, hcr⟩ : ∃ G L x0, stepF F s = (G, L, x0) := ⟨_, _, _, rfl⟩
  obtain ⟨G2, L2, x2, hcr2⟩ : ∃ G L x0, stepF F t = (G, L, x0) := ⟨_, _, _, rfl⟩
  have HC := Lib.hid hcr
  have HC2 := Lib.hid hcr2
  have HGG : Hid G.good := Lib.hid (by have := good_step HGD.out HSO.out; rw [hcr] at this; exact this)
  clear hcr hcr2
  refine (papply_r F G L x0 _ s _ HGD.out HL.out.fam HSO.out HC.out).mono ?_
  rintro e w3 ⟨gv, sv, rfl, hg, _, hb⟩
  obtain ⟨ga, gc, gm, rfl⟩ := hg.form
  have hk3 := hb.onAlloc (.cells #[.slice ga G.N gc, .map gm] 28)
  have HX := Lib.hid (Bx.new w3 _ rfl (.slice ga G.N gc) (.map gm) 28)
  have HFG := Lib.hid (hg.keep ((Below.refl w3.heap.size w3).onAlloc (.cells #[.slice ga G.N gc, .map gm] 28)))
  have HL := Lib.hid (HL.out.later hk3)
  have HSX := Lib.hid (HSX.out.later hk3)
  have HTX := Lib.hid (HTX.out.later hk3)
  clear hb hk3 hg
  clear b0 b1 c0 c1 q0 q1 q2 q3 q4 q5 t0 t1 t2 t3 t4 t5
  have b0 := HL.out.fb.c0
  have b1 := HL.out.fb.c1
  have c0 := HL.out.gb.c0
  have c1 := HL.out.gb.c1
  have q0 := HSX.out.s0
  have q1 := HSX.out.s1
  have q2 := HSX.out.s2
  have q3 := HSX.out.s3
  have q4 := HSX.out.s4
  have q5 := HSX.out.s5
  have t0 := HTX.out.s0
  have t1 := HTX.out.s1
  have t2 := HTX.out.s2
  have t3 := HTX.out.s3
  have t4 := HTX.out.s4
  have t5 := HTX.out.s5
  go_wp2_with fail
  refine (papply_r F G2 L2 x2 _ t _ HGD.out HL.out.fam HTO.out HC2.out).mono ?_
  rintro e w4 ⟨gv2, sv2, rfl, _, _, hb⟩
  have HX := Lib.hid (HX.out.later hb)
  have HFG := Lib.hid (HFG.out.keep hb)
  have HL := Lib.hid (HL.out.later hb)
  have HSX := Lib.hid (HSX.out.later hb)
  have HTX := Lib.hid (HTX.out.later hb)
  clear hb
  clear b0 b1 c0 c1 q0 q1 q2 q3 q4 q5 t0 t1 t2 t3 t4 t5
  have b0 := HL.out.fb.c0
  have b1 := HL.out.fb.c1
  have c0 := HL.out.gb.c0
  have c1 := HL.out.gb.c1
  have q0 := HSX.out.s0
  have q1 := HSX.out.s1
  have q2 := HSX.out.s2
  have q3 := HSX.out.s3
  have q4 := HSX.out.s4
  have q5 := HSX.out.s5
  have t0 := HTX.out.s0
  have t1 := HTX.out.s1
  have t2 := HTX.out.s2
  have t3 := HTX.out.s3
  have t4 := HTX.out.s4
  have t5 := HTX.out.s5
  by_cases hx0 : x0 = 0
  · subst hx0
    go_wp2_with fail
    refine (rapply_r F G L 0 _ s _ HGD.out.1 HL.out.famr HSO.out HC.out).mono ?_
    rintro e w5 ⟨yv, sv5, rfl, hg5, _, hb⟩
    obtain ⟨ya, yn, yc, rfl⟩ := hg5.form
    have hk5 := hb.onAlloc (.cells #[.int .i64 G.N, .slice ya yn yc] 45)
    have HY := Lib.hid (Bx.new w5 _ rfl (.int .i64 G.N) (.slice ya yn yc) 45)
    have HFR := Lib.hid (hg5.keep ((Below.refl w5.heap.size w5).onAlloc (.cells #[.int .i64 G.N, .slice ya yn yc] 45)))
    have HX := Lib.hid (HX.out.later hk5)
    have HFG := Lib.hid (HFG.out.keep hk5)
    have HL := Lib.hid (HL.out.later hk5)
    have HSX := Lib.hid (HSX.out.later hk5)
    have HTX := Lib.hid (HTX.out.later hk5)
    clear hb hk5 hg5
    clear b0 b1 c0 c1 q0 q1 q2 q3 q4 q5 t0 t1 t2 t3 t4 t5
    have b0 := HL.out.fb.c0
    have b1 := HL.out.fb.c1
    have c0 := HL.out.gb.c0
    have c1 := HL.out.gb.c1
    have q0 := HSX.out.s0
    have q1 := HSX.out.s1
    have q2 := HSX.out.s2
    have q3 := HSX.out.s3
    have q4 := HSX.out.s4
    have q5 := HSX.out.s5
    have t0 := HTX.out.s0
    have t1 := HTX.out.s1
    have t2 := HTX.out.s2
    have t3 := HTX.out.s3
    have t4 := HTX.out.s4
    have t5 := HTX.out.s5
    have x0 := HX.out.c0
    have x1 := HX.out.c1
    have y0 := HY.out.c0
    have y1 := HY.out.c1
    go_wp2_with fail
    obtain ⟨G3, L3, x3, hcr3⟩ : ∃ G' L x0, stepF G t = (G', L, x0) := ⟨_, _, _, rfl⟩
    have HC3 := Lib.hid hcr3
    clear hcr3
    refine (papply_r G G3 L3 x3 _ t _ HGG.out HFG.out HTO.out HC3.out).mono ?_
    rintro e w6 ⟨gv6, sv6, rfl, _, _, hb⟩
    have HX := Lib.hid (HX.out.later hb)
    have HY := Lib.hid (HY.out.later hb)
    have HFG := Lib.hid (HFG.out.keep hb)
    have HFR := Lib.hid (HFR.out.keep hb)
    have HL := Lib.hid (HL.out.later hb)
    have HSX := Lib.hid (HSX.out.later hb)
    have HTX := Lib.hid (HTX.out.later hb)
    clear hb x0 x1 y0 y1
    clear b0 b1 c0 c1 q0 q1 q2 q3 q4 q5 t0 t1 t2 t3 t4 t5
    have b0 := HL.out.fb.c0
    have b1 := HL.out.fb.c1
    have c0 := HL.out.gb.c0
    have c1 := HL.out.gb.c1
    have q0 := HSX.out.s0
    have q1 := HSX.out.s1
    have q2 := HSX.out.s2
    have q3 := HSX.out.s3
    have q4 := HSX.out.s4
    have q5 := HSX.out.s5
    have t0 := HTX.out.s0
    have t1 := HTX.out.s1
    have t2 := HTX.out.s2
    have t3 := HTX.out.s3
    have t4 := HTX.out.s4
    have t5 := HTX.out.s5
    have x0 := HX.out.c0
    have x1 := HX.out.c1
    have y0 := HY.out.c0
    have y1 := HY.out.c1
    go_wp2_with fail
    refine (same36_is G _ _ _ HGG.out.1 (small_short HGG.out.1 HGG.out.2) HFG.out HFR.out).mono ?_
    rintro e w7 ⟨rfl, hb⟩
    have HL := Lib.hid (HL.out.later hb)
    have HSX := Lib.hid (HSX.out.later hb)
    have HTX := Lib.hid (HTX.out.later hb)
    clear hb x0 x1 y0 y1
    clear b0 b1 c0 c1 q0 q1 q2 q3 q4 q5 t0 t1 t2 t3 t4 t5
    have b0 := HL.out.fb.c0
    have b1 := HL.out.fb.c1
    have c0 := HL.out.gb.c0
    have c1 := HL.out.gb.c1
    have q0 := HSX.out.s0
    have q1 := HSX.out.s1
    have q2 := HSX.out.s2
    have q3 := HSX.out.s3
    have q4 := HSX.out.s4
    have q5 := HSX.out.s5
    have t0 := HTX.out.s0
    have t1 := HTX.out.s1
    have t2 := HTX.out.s2
    have t3 := HTX.out.s3
    have t4 := HTX.out.s4
    have t5 := HTX.out.s5
    go_wp2_with fail
    refine (same36_is F _ _ _ HGD.out.1 HS9.out HL.out.fam HL.out.famr).mono ?_
    rintro e w8 ⟨rfl, hb⟩
    have hB9 := HK0.out.on (HL.out.B.on hb)
    clear hb
    clear b0 b1 c0 c1 q0 q1 q2 q3 q4 q5 t0 t1 t2 t3 t4 t5
    go_wp2_with fail
    go_ret
    exact ⟨rfl, hB9⟩
  · have d0 : (x0 == 0) = false := by simpa using hx0
    clear hx0
    go_wp2_with fail
    refine (same36_is F _ _ _ HGD.out.1 HS9.out HL.out.fam HL.out.famr).mono ?_
    rintro e w8 ⟨rfl, hb⟩
    have hB9 := HK0.out.on (HL.out.B.on hb)
    clear hb
    clear b0 b1 c0 c1 q0 q1 q2 q3 q4 q5 t0 t1 t2 t3 t4 t5
    go_wp2_with fail
    go_ret
    exact ⟨rfl, hB9⟩
end Go.Proofs.YtpakjddfnhnndaaGreat
