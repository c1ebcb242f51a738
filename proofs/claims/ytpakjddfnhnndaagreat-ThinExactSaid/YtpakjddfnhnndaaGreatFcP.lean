/-
  The example of chapter 36: awake.
  Conditions: as each theorem says.
-/
import Derived.Test.YtpakjddfnhnndaaGreatFbD
import Derived.Test.YtpakjddfnhnndaaGreatFcD
namespace Go.Proofs.YtpakjddfnhnndaaGreat
set_option linter.unusedSimpArgs false
set_option linter.unusedVariables false
set_option maxRecDepth 100000
open Go.RowKit Go.Maps

theorem create_r (F G : Fam) (e0 : Int) (fv : Value) (nm : List UInt8) (n r : Int) (w : World) (hF : F.ok) (h : FamV w fv F) (hnm : nm.length ≤ maxLen) (he : createF F nm n r = (G, e0)) :
    Calls Tryz.prog 19 #[fv, nmV nm, .int .i64 n, .int .i64 r] w (FamPost w G e0) := by
  have := create_is F fv nm n r w hF h hnm
  rwa [he] at this
theorem clone_r (F G : Fam) (e0 : Int) (fv : Value) (nm other : List UInt8) (w : World) (hF : F.ok) (hs : ∀ v ∈ F.vs, v.l.length ≤ 9000) (h : FamV w fv F) (hnm : nm.length ≤ maxLen) (hot : other.length ≤ maxLen) (he : cloneF F nm other = (G, e0)) :
    Calls Tryz.prog 21 #[fv, nmV nm, nmV other] w (FamPost w G e0) := by
  have := clone_is F fv nm other w hF hs h hnm hot
  rwa [he] at this
theorem delete_r (F G : Fam) (L : List E) (e0 : Int) (fv : Value) (nm : List UInt8) (w : World) (hF : F.ok) (hs : ∀ v ∈ F.vs, v.l.length ≤ 9000) (h : FamV w fv F) (hnm : nm.length ≤ maxLen) (he : deleteF F nm = (G, L, e0)) :
    Calls Tryz.prog 32 #[fv, nmV nm] w (FamPost3 w G L e0) := by
  have := delete_is F fv nm w hF hs h hnm
  rwa [he] at this
theorem assign_r (F G : Fam) (L : List E) (e0 : Int) (fv : Value) (nm : List UInt8) (x : E) (w : World) (hF : F.ok) (hs : ∀ v ∈ F.vs, v.l.length ≤ 9000) (h : FamV w fv F) (hnm : nm.length ≤ maxLen) (hx : x.wf) (he : assignF F nm x = (G, L, e0)) :
    Calls Tryz.prog 60 #[fv, nmV nm, .agg #[.int .i64 x.a, .int .i64 x.n, .int .i64 x.s]] w (FamPost3 w G L e0) := by
  have := assign_is F fv nm x w hF hs h hnm hx
  rwa [he] at this
theorem unmap_r (F G : Fam) (L : List E) (e0 : Int) (fv : Value) (nm : List UInt8) (p n : Int) (w : World) (hF : F.ok) (hs : ∀ v ∈ F.vs, v.l.length ≤ 9000) (h : FamV w fv F) (hnm : nm.length ≤ maxLen) (hp : -9223372036854775808 ≤ p ∧ p ≤ 9223372036854775807) (he : unmapF F nm p n = (G, L, e0)) :
    Calls Tryz.prog 61 #[fv, nmV nm, .int .i64 p, .int .i64 n] w (FamPost3 w G L e0) := by
  have := unmap_is F fv nm p n w hF hs h hnm hp
  rwa [he] at this
theorem info_r (F : Fam) (im : List UInt8) (i1 i2 i3 i4 e0 : Int) (fv : Value) (nm : List UInt8) (w : World) (hF : F.ok) (hs : ∀ v ∈ F.vs, v.l.length ≤ 9000) (h : FamV w fv F) (hnm : nm.length ≤ maxLen) (he : infoF F nm = (⟨im, i1, i2, i3, i4⟩, e0)) :
    Calls Tryz.prog 20 #[fv, nmV nm] w fun e w' => e = .returned (.tuple #[.agg #[nmV im, .int .i64 i1, .int .i64 i2, .int .i64 i3, .int .i64 i4], .int .i64 e0]) ∧ Below w.heap.size w w' := by
  have := finfo_is F fv nm w hF hs h hnm
  rwa [he] at this
theorem count_r (F : Fam) (fv : Value) (s k : Int) (w : World) (h : FamV w fv F) (he : ofC F.C s = k) : Calls Tryz.prog 29 #[fv, .int .i64 s] w fun e w' => e = .returned (.int .i64 k) ∧ Below w.heap.size w w' := by
  subst he
  exact fcount_is F fv s w h
theorem FamV.form {w : World} {fv : Value} {F : Fam} (h : FamV w fv F) : ∃ a c mb, fv = .agg #[.slice a F.N c, .map mb] := by
  obtain ⟨a, c, mb, h, _⟩ := h
  exact ⟨a, c, mb, h⟩
theorem famTy : 3 ≠ 28 := by decide
/-- A family in block T. -/
structure AwS (w0 W : World) (T : Nat) (u v : Value) (F : Fam) : Prop where
  bx : Bx W T 28 u v
  fam : FamV W (.agg #[u, v]) F
  B : Below w0.heap.size w0 W
  le : w0.heap.size ≤ T
theorem AwS.later {w0 W W' : World} {T : Nat} {u v : Value} {F : Fam} (h : AwS w0 W T u v F) (hb : Below W.heap.size W W') : AwS w0 W' T u v F :=
  ⟨h.bx.later hb, h.fam.keep hb, h.B.on hb, h.le⟩
theorem AwS.new {w0 w1 : World} {u v : Value} {F : Fam} (h : FamV w1 (.agg #[u, v]) F) (hb : Below w0.heap.size w0 w1) : AwS w0 (w1.alloc (.cells #[u, v] 28)) w1.heap.size u v F :=
  ⟨Bx.new w1 _ rfl u v _, h.keep ((Below.refl _ _).onAlloc _), hb.onAlloc _, hb.size⟩
theorem AwS.put {w0 W : World} {T : Nat} {u v x y : Value} {F G : Fam} (h : AwS w0 W T u v F) (hg : FamV W (.agg #[x, y]) G) : AwS w0 (fam2 W T x y) T x y G :=
  ⟨h.bx.put x y, h.bx.famV famTy hg, (h.B.setCell h.le _).setCell h.le _, h.le⟩

/-! ### The families of the example -/
def na : List UInt8 := [97]
def nb : List UInt8 := [98]
def aw1 : Fam := ⟨10, []⟩
def aw2 : Fam := ⟨10, [⟨na, 4, 0, []⟩]⟩
def aw3 : Fam := ⟨10, [⟨na, 4, 0, [⟨0, 3, 5⟩]⟩]⟩
def aw4 : Fam := ⟨10, [⟨na, 4, 0, [⟨0, 3, 5⟩]⟩, ⟨nb, 4, 0, [⟨0, 3, 5⟩]⟩]⟩
def aw5 : Fam := ⟨10, [⟨na, 4, 0, [⟨1, 2, 6⟩]⟩, ⟨nb, 4, 0, [⟨0, 3, 5⟩]⟩]⟩
def aw6 : Fam := ⟨10, [⟨na, 4, 0, [⟨1, 2, 6⟩]⟩]⟩
theorem aw_12 : createF aw1 na 4 0 = (aw2, 0) := rfl
theorem aw_free (F G : Fam) (h : picks (freeB F.C G.C) F.N = []) : freedF F G = [] := by
  unfold freedF
  rw [h, runs_nil]
theorem aw_23 : assignF aw2 na ⟨0, 3, 5⟩ = (aw3, [], 0) := by
  have h : freedF aw2 aw3 = [] := aw_free _ _ rfl
  rw [show assignF aw2 na ⟨0, 3, 5⟩ = (aw3, freedF aw2 aw3, 0) from rfl, h]
theorem aw_34 : cloneF aw3 na nb = (aw4, 0) := rfl
theorem aw_45 : unmapF aw4 na 0 1 = (aw5, [], 0) := by
  have h : freedF aw4 aw5 = [] := aw_free _ _ rfl
  rw [show unmapF aw4 na 0 1 = (aw5, freedF aw4 aw5, 0) from rfl, h]
theorem aw_56 : deleteF aw5 nb = (aw6, [⟨0, 1, 5⟩], 0) := by
  have h : freedF aw5 aw6 = [⟨0, 1, 5⟩] := by
    unfold freedF
    rw [show picks (freeB aw5.C aw6.C) aw5.N = [⟨0, 1, 5⟩] from rfl]
    exact (runs_is [⟨0, 1, 5⟩] [⟨0, 1, 5⟩] ⟨by intro x hx; simp at hx; subst hx; exact ⟨rfl, by decide⟩, by simp⟩ fun _ => Iff.rfl).symm
  rw [show deleteF aw5 nb = (aw6, freedF aw5 aw6, 0) from rfl, h]
theorem aw_ia : infoF aw5 na = (⟨na, 4, 0, 2, 0⟩, 0) := rfl
theorem aw_ib : infoF aw5 nb = (⟨nb, 4, 0, 3, 1⟩, 0) := rfl
theorem aw_n : ofC aw4.C 5 = 2 := rfl
theorem aw_ok1 : aw1.ok := ⟨by decide, List.Pairwise.nil, by decide, by simp [aw1]⟩
theorem aw_ok2 : aw2.ok := by have := ok_create aw_ok1 na 4 0; rwa [aw_12] at this
theorem aw_ok3 : aw3.ok := by have := ok_assign aw_ok2 na ⟨0, 3, 5⟩; rwa [aw_23] at this
theorem aw_ok4 : aw4.ok := by have := ok_clone aw_ok3 na nb; rwa [aw_34] at this
theorem aw_ok5 : aw5.ok := by have := ok_unmap aw_ok4 na 0 1; rwa [aw_45] at this
theorem aw_s2 : ∀ v ∈ aw2.vs, v.l.length ≤ 9000 := by decide
theorem aw_s3 : ∀ v ∈ aw3.vs, v.l.length ≤ 9000 := by decide
theorem aw_s4 : ∀ v ∈ aw4.vs, v.l.length ≤ 9000 := by decide
theorem aw_s5 : ∀ v ∈ aw5.vs, v.l.length ≤ 9000 := by decide
theorem na_max : na.length ≤ maxLen := by decide
theorem nb_max : nb.length ≤ maxLen := by decide
set_option maxHeartbeats 8000000 in
theorem awake36_any (w : World) : Calls Tryz.prog 17 #[] w fun e w' => e = .returned (.bool true) ∧ Below w.heap.size w w' := by
  go_enter Tryz.func17, Tryz.ntmps17
  go_wp2_with fail
  refine (fnew_yes 10 _ (by omega)).mono ?_
  rintro e w1 ⟨fv, rfl, hf, hb⟩
  have hf : FamV w1 fv aw1 := hf
  obtain ⟨a1, c1, m1, rfl⟩ := hf.form
  have HA := Lib.hid (AwS.new hf hb)
  clear hf hb
  have b0 := HA.out.bx.c0
  have b1 := HA.out.bx.c1
  have f0 := HA.out.bx.f0
  have f1 := HA.out.bx.f1
  go_wp2_with fail
  refine (create_r aw1 aw2 0 _ na 4 0 _ aw_ok1 HA.out.fam na_max aw_12).mono ?_
  rintro e w2 ⟨fv, rfl, hf, hb⟩
  obtain ⟨a2, c2, m2, rfl⟩ := hf.form
  have HA := Lib.hid (HA.out.later hb)
  clear hb b0 b1 f0 f1
  (try clear q0 q1)
  have b0 := HA.out.bx.c0
  have b1 := HA.out.bx.c1
  have f0 := HA.out.bx.f0
  have f1 := HA.out.bx.f1
  have HA := Lib.hid (HA.out.put hf)
  clear hf
  have q0 := HA.out.bx.c0
  have q1 := HA.out.bx.c1
  go_wp2_with fail
  refine (assign_r aw2 aw3 [] 0 _ na ⟨0, 3, 5⟩ _ aw_ok2 aw_s2 HA.out.fam na_max (by simp [E.wf]) aw_23).mono ?_
  rintro e w3 ⟨fv, sv, rfl, hf, _, hb⟩
  obtain ⟨a3, c3, m3, rfl⟩ := hf.form
  have HA := Lib.hid (HA.out.later hb)
  clear hb b0 b1 f0 f1
  (try clear q0 q1)
  have b0 := HA.out.bx.c0
  have b1 := HA.out.bx.c1
  have f0 := HA.out.bx.f0
  have f1 := HA.out.bx.f1
  have HA := Lib.hid (HA.out.put hf)
  clear hf
  have q0 := HA.out.bx.c0
  have q1 := HA.out.bx.c1
  go_wp2_with fail
  refine (clone_r aw3 aw4 0 _ na nb _ aw_ok3 aw_s3 HA.out.fam na_max nb_max aw_34).mono ?_
  rintro e w4 ⟨fv, rfl, hf, hb⟩
  obtain ⟨a4, c4, m4, rfl⟩ := hf.form
  have HA := Lib.hid (HA.out.later hb)
  clear hb b0 b1 f0 f1
  (try clear q0 q1)
  have b0 := HA.out.bx.c0
  have b1 := HA.out.bx.c1
  have f0 := HA.out.bx.f0
  have f1 := HA.out.bx.f1
  have HA := Lib.hid (HA.out.put hf)
  clear hf
  have q0 := HA.out.bx.c0
  have q1 := HA.out.bx.c1
  go_wp2_with fail
  refine (unmap_r aw4 aw5 [] 0 _ na 0 1 _ aw_ok4 aw_s4 HA.out.fam na_max (by omega) aw_45).mono ?_
  rintro e w5 ⟨fv, sv, rfl, hf, ho, hb⟩
  obtain ⟨a5, c5, m5, rfl⟩ := hf.form
  obtain ⟨na1, nc1, rfl, _⟩ := ho.rd (by simp)
  have HG := Lib.hid (AwS.new hf (HA.out.B.on hb))
  have HA := Lib.hid (HA.out.later (hb.onAlloc (.cells #[.slice a5 aw5.N c5, .map m5] 28)))
  clear hb hf ho b0 b1 f0 f1 q0 q1
  have b0 := HG.out.bx.c0
  have b1 := HG.out.bx.c1
  go_wp2_with fail
  refine (info_r aw5 na 4 0 2 0 0 _ na _ aw_ok5 aw_s5 HG.out.fam na_max aw_ia).mono ?_
  rintro e w6 ⟨rfl, hb⟩
  have hk := hb.onAlloc (.cells #[nmV na, .int .i64 4, .int .i64 0, .int .i64 2, .int .i64 0] 34)
  have HA := Lib.hid (HA.out.later hk)
  have HG := Lib.hid (HG.out.later hk)
  have x4 : (w6.alloc (.cells #[nmV na, .int .i64 4, .int .i64 0, .int .i64 2, .int .i64 0] 34)).cell? ⟨w6.heap.size, 4, none⟩ = some (.int .i64 0) := by simp
  clear hb hk b0 b1
  have b0 := HG.out.bx.c0
  have b1 := HG.out.bx.c1
  go_wp2_with fail
  refine (info_r aw5 nb 4 0 3 1 0 _ nb _ aw_ok5 aw_s5 HG.out.fam nb_max aw_ib).mono ?_
  rintro e w7 ⟨rfl, hb⟩
  have hk := hb.onAlloc (.cells #[nmV nb, .int .i64 4, .int .i64 0, .int .i64 3, .int .i64 1] 34)
  have HA := Lib.hid (HA.out.later hk)
  have HG := Lib.hid (HG.out.later hk)
  have y4 : (w7.alloc (.cells #[nmV nb, .int .i64 4, .int .i64 0, .int .i64 3, .int .i64 1] 34)).cell? ⟨w7.heap.size, 4, none⟩ = some (.int .i64 1) := by simp
  replace x4 := hk.keep x4
  clear hb hk b0 b1
  have b0 := HG.out.bx.c0
  have b1 := HG.out.bx.c1
  go_wp2_with fail
  refine (delete_r aw5 aw6 [⟨0, 1, 5⟩] 0 _ nb _ aw_ok5 aw_s5 HG.out.fam nb_max aw_56).mono ?_
  rintro e w8 ⟨fv, sv, rfl, hf, ho, hb⟩
  obtain ⟨a8, c8, m8, rfl⟩ := hf.form
  obtain ⟨d1, d2, rfl, hd⟩ := ho.rd (by simp)
  have hk := hb.onAlloc (.cells #[.slice a8 aw6.N c8, .map m8] 28)
  have HA := Lib.hid (HA.out.later hk)
  have HD := Lib.hid (hd.keep ((Below.refl w8.heap.size w8).onAlloc (.cells #[.slice a8 aw6.N c8, .map m8] 28)))
  replace x4 := hk.keep x4
  replace y4 := hk.keep y4
  clear hb hk hd hf ho b0 b1
  have b0 := HA.out.bx.c0
  have b1 := HA.out.bx.c1
  go_wp2_with fail
  refine (count_r aw4 _ 5 2 _ HA.out.fam aw_n).mono ?_
  rintro e w9 ⟨rfl, hb⟩
  have HA := Lib.hid (HA.out.later hb)
  have HD := Lib.hid (HD.out.keep hb)
  replace x4 := hb.keep x4
  replace y4 := hb.keep y4
  clear hb b0 b1
  go_wp2_with fail
  have hl := (Below.refl w9.heap.size w9).onAlloc (.cells #[.int .i64 0, .int .i64 1, .int .i64 5] 65)
  refine (same_is [⟨0, 1, 5⟩] [⟨0, 1, 5⟩] _ _ _ _ true _ (by decide) (HD.out.keep hl) (Rd.lit w9 _ [⟨0, 1, 5⟩] _ rfl rfl (by simp))).mono ?_
  rintro e w10 ⟨rfl, hb⟩
  have hB := (HA.out.later (hl.on hb)).B
  go_wp2_with fail
  go_ret
  exact ⟨rfl, hB⟩
end Go.Proofs.YtpakjddfnhnndaaGreat
