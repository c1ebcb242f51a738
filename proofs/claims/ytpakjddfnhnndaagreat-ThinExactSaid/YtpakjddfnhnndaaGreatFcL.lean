/-
  tegularef36: Info.
  Conditions: as each theorem says.
-/
import Derived.Test.YtpakjddfnhnndaaGreatFcK
import Derived.Test.YtpakjddfnhnndaaGreatFbD
namespace Go.Proofs.YtpakjddfnhnndaaGreat
set_option linter.unusedSimpArgs false
set_option linter.unusedVariables false
set_option maxRecDepth 100000
open Go.RowKit Go.Maps

/-- What is known about a volume, in block T. -/
structure IT (W : World) (T : Nat) (i : Info) : Prop where
  t0 : W.cell? ⟨T, 0, none⟩ = some (nmV i.nm)
  t1 : W.cell? ⟨T, 1, none⟩ = some (.int .i64 i.n)
  t2 : W.cell? ⟨T, 2, none⟩ = some (.int .i64 i.r)
  t3 : W.cell? ⟨T, 3, none⟩ = some (.int .i64 i.m)
  t4 : W.cell? ⟨T, 4, none⟩ = some (.int .i64 i.x)
  g4 : W.frozen? ⟨T, 4, none⟩ = false
theorem IT.lt {W : World} {T : Nat} {i : Info} (h : IT W T i) : T < W.heap.size := World.block_lt_of_cell? W ⟨T, 0, none⟩ h.t0
theorem IT.later {W W' : World} {T : Nat} {i : Info} (h : IT W T i) (hb : Below W.heap.size W W') : IT W' T i :=
  ⟨hb.keep h.t0, hb.keep h.t1, hb.keep h.t2, hb.keep h.t3, hb.keep h.t4, hb.keepF h.t4 h.g4⟩
theorem IT.new (V : World) (B : Nat) (hB : V.heap.size = B) (i : Info) (t : TypeId) : IT (V.alloc (.cells #[nmV i.nm, .int .i64 i.n, .int .i64 i.r, .int .i64 i.m, .int .i64 i.x] t)) B i := by
  subst hB
  exact ⟨by simp, by simp, by simp, by simp, by simp, by simp⟩
theorem IT.setx {W : World} {T : Nat} {i : Info} (h : IT W T i) (e : Int) : IT (W.setCell ⟨T, 4, none⟩ (.int .i64 e)) T ⟨i.nm, i.n, i.r, i.m, e⟩ := by
  have k : ∀ (j : Nat), 4 ≠ j → (W.setCell ⟨T, 4, none⟩ (.int .i64 e)).cell? ⟨T, j, none⟩ = W.cell? ⟨T, j, none⟩ := fun j hij => World.cell?_setCell_other _ _ _ _ (fun e => hij (Addr.mk.inj e).2.1)
  exact ⟨(k 0 (by omega)).trans h.t0, (k 1 (by omega)).trans h.t1, (k 2 (by omega)).trans h.t2, (k 3 (by omega)).trans h.t3, World.cell?_setCell_same _ _ _ h.t4, by rw [World.frozen?_setCell]; exact h.g4⟩
theorem IT.of_ri {w W : World} {T : Nat} (h : RI w W T) (i : Info) : IT (inf5 W T i) T i := by
  obtain ⟨j0, j1, j2, j3, j4⟩ := h.cells i
  refine ⟨j0, j1, j2, j3, j4, ?_⟩
  rw [World.frozen?_setCell, World.frozen?_setCell, World.frozen?_setCell, World.frozen?_setCell, World.frozen?_setCell]
  exact h.f4
theorem RI.setAway {w W : World} {R T j : Nat} {u : Value} (h : RI w W R) (hne : R ≠ T) (hT : w.heap.size ≤ T) : RI w (W.setCell ⟨T, j, none⟩ u) R := by
  have k : ∀ j', (W.setCell ⟨T, j, none⟩ u).cell? ⟨R, j', none⟩ = W.cell? ⟨R, j', none⟩ := fun j' => cell_far hne
  exact ⟨(k 0).trans h.r0, (k 1).trans h.r1, (k 2).trans h.r2, (k 3).trans h.r3, (k 4).trans h.r4, by rw [World.frozen?_setCell]; exact h.f0, by rw [World.frozen?_setCell]; exact h.f1, by rw [World.frozen?_setCell]; exact h.f2, by rw [World.frozen?_setCell]; exact h.f3, by rw [World.frozen?_setCell]; exact h.f4, h.le, h.bel.setCell hT _⟩
/-- The memory of Info behind the volume's copy. -/
structure IH (w W : World) (a : Option Addr) (n : Int) (m c X T : Nat) (x : RT) (i : Info) : Prop where
  bh : BH w W a n m c
  vx : VX W X x
  it : IT W T i
  ri : RI w W (w.heap.size + 1)
  xr : w.heap.size + 1 < X
  xt : X < T
theorem IH.later {w W W' : World} {a : Option Addr} {n : Int} {m c X T : Nat} {x : RT} {i : Info} (h : IH w W a n m c X T x i) (hb : Below W.heap.size W W') : IH w W' a n m c X T x i :=
  ⟨h.bh.later hb, h.vx.later hb, h.it.later hb, h.ri.later hb, h.xr, h.xt⟩
theorem IH.setx {w W : World} {a : Option Addr} {n : Int} {m c X T : Nat} {x : RT} {i : Info} (h : IH w W a n m c X T x i) (e : Int) : IH w (W.setCell ⟨T, 4, none⟩ (.int .i64 e)) a n m c X T x ⟨i.nm, i.n, i.r, i.m, e⟩ := by
  have h1 := h.xr
  have h2 := h.xt
  have k : ∀ b j, b ≠ T → (W.setCell ⟨T, 4, none⟩ (.int .i64 e)).cell? ⟨b, j, none⟩ = W.cell? ⟨b, j, none⟩ := fun b j hb => cell_far hb
  exact ⟨⟨(k _ _ (by omega)).trans h.bh.b0, (k _ _ (by omega)).trans h.bh.b1, h.bh.B.setCell (by simp only; omega) _⟩,
    ⟨(k _ _ (by omega)).trans h.vx.x0, (k _ _ (by omega)).trans h.vx.x1, (k _ _ (by omega)).trans h.vx.x2, (k _ _ (by omega)).trans h.vx.x3, by rw [World.frozen?_setCell]; exact h.vx.g0, by rw [World.frozen?_setCell]; exact h.vx.g2, by rw [World.frozen?_setCell]; exact h.vx.g3⟩,
    h.it.setx e, h.ri.setAway (by omega) (by omega), h1, h2⟩
theorem BH.initI (w : World) (a : Option Addr) (n : Int) (m c : Nat) (W : World) (hW : W = (w.alloc (.cells #[.int .i64 n, .slice a m c] 45)).alloc (.cells #[nmV [], .int .i64 0, .int .i64 0, .int .i64 0, .int .i64 0] 34)) :
    BH w W a n m c ∧ RI w W (w.heap.size + 1) := by
  subst hW
  have h := RI.new w _ 34 ((Below.refl w.heap.size w).onAlloc (.cells #[.int .i64 n, .slice a m c] 45))
  rw [show (w.alloc (.cells #[.int .i64 n, .slice a m c] 45)).heap.size = w.heap.size + 1 by simp] at h
  exact ⟨(BH.init w a n m c).later ((Below.refl _ _).onAlloc _), h⟩
theorem info_ref (F : Fam) (hF : F.ok) {v : Vol} (hv : getV F.vs v.nm = some v) : infoF F v.nm = (⟨v.nm, v.n, v.r, lenL v.l, exclL F.C v.l⟩, 0) := by
  unfold infoF
  rw [hv, excl_single hF (getV_mem hv).1]
  rfl
theorem below_inf5 {n : Nat} {w W : World} (h : Below n w W) {T : Nat} (hT : n ≤ T) (i : Info) : Below n w (inf5 W T i) := ((((h.setCell hT _).setCell hT _).setCell hT _).setCell hT _).setCell hT _
theorem inf5_cell {W : World} {T : Nat} {i : Info} {p : Addr} (h : p.block ≠ T) : (inf5 W T i).cell? p = W.cell? p := by
  rw [cell_far h, cell_far h, cell_far h, cell_far h, cell_far h]
theorem inf5_frozen {W : World} {T : Nat} {i : Info} {p : Addr} : (inf5 W T i).frozen? p = W.frozen? p := by
  rw [World.frozen?_setCell, World.frozen?_setCell, World.frozen?_setCell, World.frozen?_setCell, World.frozen?_setCell]
/-- Behind the store of what is known. -/
theorem IH.make {w W : World} {a : Option Addr} {n : Int} {m c X T : Nat} {x : RT} (i : Info) (bh : BH w W a n m c) (vx : VX W X x) (ri : RI w W (w.heap.size + 1)) (rt : RI w W T) (xr : w.heap.size + 1 < X) (xt : X < T) : IH w (inf5 W T i) a n m c X T x i := by
  refine ⟨⟨(inf5_cell (by simp only; omega)).trans bh.b0, (inf5_cell (by simp only; omega)).trans bh.b1, below_inf5 bh.B (by omega) i⟩,
    ⟨(inf5_cell (by simp only; omega)).trans vx.x0, (inf5_cell (by simp only; omega)).trans vx.x1, (inf5_cell (by simp only; omega)).trans vx.x2, (inf5_cell (by simp only; omega)).trans vx.x3, inf5_frozen.trans vx.g0, inf5_frozen.trans vx.g2, inf5_frozen.trans vx.g3⟩,
    IT.of_ri rt i, ?_, xr, xt⟩
  exact ((((ri.setAway (by omega) (by omega)).setAway (by omega) (by omega)).setAway (by omega) (by omega)).setAway (by omega) (by omega)).setAway (by omega) (by omega)
def InfC (w : World) (a : Option Addr) (n : Int) (m c X : Nat) (x : RT) (i : Info) (p : Value) (W : World) : Prop := ∃ T, p = .pointer (some ⟨T, 0, none⟩) ∧ IH w W a n m c X T x i
set_option maxHeartbeats 8000000 in
theorem rinfo_is (F : Fam) (gv : Value) (nm : List UInt8) (w : World) (hF : F.ok) (h : FamR w gv F) (hnm : nm.length ≤ maxLen) :
    Calls Tryz.prog 33 #[gv, nmV nm] w (InfoPost w (infoF F nm).1 (infoF F nm).2) := by
  obtain ⟨a, c, ts, rfl, hr, hl, hts, _⟩ := h
  have h32 := (fit_len hF hts).2
  obtain ⟨h0, h1⟩ := BH.initI w a F.N ts.length c _ rfl
  have HH := Lib.hid h0
  have HI := Lib.hid h1
  have HR := Lib.hid hr
  have HL := Lib.hid hl
  have HTS := Lib.hid hts
  have HF := Lib.hid hF
  clear hr hl hts hF h0 h1
  cases hg : getV F.vs nm with
  | none =>
    rw [show infoF F nm = (⟨[], 0, 0, 0, 0⟩, 9) by simp [infoF, hg]]
    have HAT := Lib.hid (at_none HTS.out hg)
    clear hg
    go_enter Tryz.func33, Tryz.ntmps33
    go_wp2_with fail
    refine (rat_r F.N ts nm a c _ (HR.out.keep HH.out.B) _ HAT.out).mono ?_
    rintro e w1 ⟨rfl, hb⟩
    have HI1 := Lib.hid (HI.out.later hb)
    clear hb
    have r0 := HI1.out.r0
    have r1 := HI1.out.r1
    have r2 := HI1.out.r2
    have r3 := HI1.out.r3
    have r4 := HI1.out.r4
    have f0 := HI1.out.f0
    have f1 := HI1.out.f1
    have f2 := HI1.out.f2
    have f3 := HI1.out.f3
    have f4 := HI1.out.f4
    go_wp2_with fail
    have hj := HI1.out.cells ⟨[], 0, 0, 0, 0⟩
    have hbl := HI1.out.below ⟨[], 0, 0, 0, 0⟩
    show bodyPost _ _ _ _ _ (inf5 w1 (w.heap.size + 1) ⟨[], 0, 0, 0, 0⟩)
    clear r0 r1 r2 r3 r4 f0 f1 f2 f3 f4
    generalize inf5 w1 (w.heap.size + 1) ⟨[], 0, 0, 0, 0⟩ = W at hj hbl ⊢
    obtain ⟨j0, j1, j2, j3, j4⟩ := hj
    simp only [nmV] at j0
    (try simp only [Exit.inBlock, Exit.then])
    refine bodyPost_ret (v := .tuple #[.agg #[.string ⟨#[]⟩, .int .i64 0, .int .i64 0, .int .i64 0, .int .i64 0], .int .i64 9]) (by first | (rw [results_cell_tmp rfl]; go_simp; done) | (rw [results_cell_tmp2 rfl]; go_simp; done) | (rw [results_cell_one rfl]; go_simp; done)) rfl ?_
    exact ⟨rfl, hbl⟩
  | some v =>
    have hvn := (getV_mem hg).2
    have hrf := info_ref F HF.out (v := v) (by rw [hvn]; exact hg)
    rw [hvn] at hrf
    rw [hrf]
    obtain ⟨k, hk, hat, hv, hkn⟩ := at_some HTS.out hg
    have hok := HF.out.vol v (getV_mem hg).1
    have HAT := Lib.hid hat
    have HMEM := Lib.hid (List.getElem_mem hk)
    have HGET := Lib.hid (List.getElem?_eq_getElem hk)
    generalize ts[k] = x at *
    subst hv
    have HOK := Lib.hid hok
    have HKN := Lib.hid hkn
    have HCN := Lib.hid F.C_length
    have HRNG := Lib.hid HF.out.range
    clear hg hat hok hkn hvn hrf
    go_enter Tryz.func33, Tryz.ntmps33
    go_wp2_with fail
    refine (rat_r F.N ts nm a c _ (HR.out.keep HH.out.B) _ HAT.out).mono ?_
    rintro e w1 ⟨rfl, hb⟩
    have hva := hb.onAlloc (.cells #[nmV x.nm, .int .i64 x.n, .int .i64 x.r, x.sl] 56)
    have HH2 := Lib.hid (HH.out.later hva)
    have HI2 := Lib.hid (HI.out.later hva)
    have HX2 := Lib.hid (VX.new w1 _ rfl x 56)
    have HRX : Hid (w.heap.size + 1 < w1.heap.size) := Lib.hid (World.block_lt_of_cell? w1 ⟨w.heap.size + 1, 0, none⟩ (HI.out.later hb).r0)
    have b0 := (HH.out.later hb).b0
    have b1 := (HH.out.later hb).b1
    obtain ⟨b, o, rfl, hat⟩ := (HR.out.keep (HH.out.later hb).B).at (by omega)
    obtain ⟨e0, e1, e2, e3⟩ := hat k x HGET.out
    clear hat hva hb
    have x0 := HX2.out.x0
    have x1 := HX2.out.x1
    have x2 := HX2.out.x2
    have x3 := HX2.out.x3
    go_upto_region 5 with fail
    clear e0 e1 e2 e3 b0 b1 x0 x1 x2 x3 HH HI
    generalize w1.alloc (.cells #[nmV x.nm, .int .i64 x.n, .int .i64 x.r, x.sl] 56) = w2 at *
    generalize w1.heap.size = X at *
    go_cut [8] from 8 to 32 (fun p wx => InfC w (some ⟨b, o, none⟩) F.N ts.length c X x ⟨x.nm, x.n, x.r, lenL x.l, 0⟩ p wx)
    case first =>
      have HV := Lib.hid (HX2.out.later (Below.refl _ _).drew)
      have HLX := Lib.hid ((HL.out x HMEM.out).keep HH2.out.B.drew)
      have HWF : Hid (wfL x.l) := Lib.hid fun z hz => okB_wf (validB_ok HOK.out.valid z hz)
      have hXl := HX2.out.lt
      have hBV : blocksV x.l = lenL x.l := blocksV_yes HOK.out.valid
      have h9d : w2.drew.heap.size = w2.heap.size := rfl
      have HT0 : Hid (RI w (w2.alloc (.cells #[.string ⟨#[]⟩, .int .i64 0, .int .i64 0, .int .i64 0, .int .i64 0] 34)).drew w2.heap.size) := Lib.hid (RI.later (RI.new w w2 34 HH2.out.B) (Below.refl _ _).drew)
      have hAL : Below w2.drew.heap.size w2.drew (w2.alloc (.cells #[.string ⟨#[]⟩, .int .i64 0, .int .i64 0, .int .i64 0, .int .i64 0] 34)).drew := (Below.refl w2.drew.heap.size w2.drew).onAlloc (.cells #[.string ⟨#[]⟩, .int .i64 0, .int .i64 0, .int .i64 0, .int .i64 0] 34)
      have HAV := Lib.hid (HV.out.later hAL)
      have HAL := Lib.hid hAL
      clear hAL
      go_region_held3 (fun w' => w'.cell? ⟨X, 0, none⟩ = some (nmV x.nm) ∧ w'.cell? ⟨X, 1, none⟩ = some (.int .i64 x.n) ∧ w'.cell? ⟨X, 2, none⟩ = some (.int .i64 x.r) ∧ w'.cell? ⟨X, 3, none⟩ = some x.sl ∧ Below w2.drew.heap.size w2.drew w')
        (first
          | with_reducible exact ⟨HV.out.x0, HV.out.x1, HV.out.x2, HV.out.x3, Below.refl _ _⟩
          | (have hH := ‹_ ∧ _ ∧ _ ∧ _ ∧ Below w2.drew.heap.size w2.drew _›
             have hW := ‹Below w2.drew.heap.size w2.drew _ ∧ True›.1
             have hJ := below_inf5 hW (T := w2.heap.size) (Nat.le_refl _) ⟨x.nm, x.n, x.r, lenL x.l, 0⟩
             first
              | with_reducible exact ⟨(HV.out.later hJ).x0, (HV.out.later hJ).x1, (HV.out.later hJ).x2, (HV.out.later hJ).x3, hJ⟩
              | with_reducible exact ⟨(HV.out.later (hW.onAlloc _)).x0, (HV.out.later (hW.onAlloc _)).x1, (HV.out.later (hW.onAlloc _)).x2, (HV.out.later (hW.onAlloc _)).x3, hW.onAlloc _⟩
              | with_reducible exact ⟨(HV.out.later hW).x0, (HV.out.later hW).x1, (HV.out.later hW).x2, (HV.out.later hW).x3, hW⟩)
          | with_reducible exact ⟨HAV.out.x0, HAV.out.x1, HAV.out.x2, HAV.out.x3, HAL.out⟩)
        (first
          | (go_at_call 79; have hH := ‹_ ∧ _ ∧ _ ∧ _ ∧ Below w2.drew.heap.size w2.drew _›; refine (rblocks_any x.l x.a x.c _ (HLX.out.keep hH.2.2.2.2) HWF.out (by have : x.l.length ≤ 100000 := fam_short HOK.out; omega)).mono ?_; rw [hBV]; rintro e w3 ⟨rfl, hb3⟩; have hB3 : Below w2.drew.heap.size w2.drew w3 ∧ True := ⟨hH.2.2.2.2.on hb3, trivial⟩; (try (have HT3 := Lib.hid (HT0.out.later hb3); have t0 := HT3.out.r0; have t1 := HT3.out.r1; have t2 := HT3.out.r2; have t3 := HT3.out.r3; have t4 := HT3.out.r4; have s0 := HT3.out.f0; have s1 := HT3.out.f1; have s2 := HT3.out.f2; have s3 := HT3.out.f3; have s4 := HT3.out.f4))))
      · have h23 := (Below.refl w2.heap.size w2).drew.on hB3.1
        have hk := h23.onAlloc (.cells #[nmV x.nm, .int .i64 x.n, .int .i64 x.r, .int .i64 (lenL x.l), .int .i64 0] 34)
        have HQ : Hid (InfC w (some ⟨b, o, none⟩) F.N ts.length c X x ⟨x.nm, x.n, x.r, lenL x.l, 0⟩ (.pointer (some ⟨w3.heap.size, 0, none⟩)) (w3.alloc (.cells #[nmV x.nm, .int .i64 x.n, .int .i64 x.r, .int .i64 (lenL x.l), .int .i64 0] 34))) :=
          Lib.hid ⟨_, rfl, HH2.out.later hk, HX2.out.later hk, IT.new w3 _ rfl ⟨x.nm, x.n, x.r, lenL x.l, 0⟩ _, HI2.out.later hk, HRX.out, by have := h23.size; omega⟩
        clear h23 hk hB3 hb3
        go_wp2_with fail
        go_meet
        exact HQ.out
      · have h23 := (Below.refl w2.heap.size w2).drew.on hB3.1
        have HQ : Hid (InfC w (some ⟨b, o, none⟩) F.N ts.length c X x ⟨x.nm, x.n, x.r, lenL x.l, 0⟩ (.pointer (some ⟨w2.heap.size, 0, none⟩)) (inf5 w3 w2.heap.size ⟨x.nm, x.n, x.r, lenL x.l, 0⟩)) :=
          Lib.hid ⟨_, rfl, IH.make _ (HH2.out.later h23) (HX2.out.later h23) (HI2.out.later h23) HT3.out HRX.out hXl⟩
        clear h23 hB3 hb3 t0 t1 t2 t3 t4 s0 s1 s2 s3 s4
        go_wp2_with fail
        go_meet
        exact HQ.out
    case rest =>
      obtain ⟨T, rfl, hih⟩ := hcut
      obtain ⟨W2, rfl⟩ : ∃ W2 : World, W2 = wc := ⟨_, rfl⟩
      have HM := Lib.hid hih
      have b0 := hih.bh.b0
      have b1 := hih.bh.b1
      clear hih
      go_wp2_with fail
      refine (rcounts_of F F.C rfl ts (some ⟨b, o, none⟩) c _ HF.out HTS.out (HR.out.keep HM.out.bh.B) (HL.out.keep HM.out.bh.B)).mono ?_
      rintro e w5 ⟨cv, rfl, ho, hb⟩
      obtain ⟨ca, cc, rfl, _⟩ := ho.rd (by rw [HCN.out]; exact HF.out.hN)
      have HM5 := Lib.hid (HM.out.later hb)
      have HOC := Lib.hid (ho.mono HM.out.it.lt)
      have HLX := Lib.hid ((HL.out x HMEM.out).keep (HM.out.later hb).bh.B)
      have HW5 := Lib.hid (HM.out.later hb).bh.B
      clear ho hb b0 b1 HM
      have hp0 : permB F.C.length x.l = true := by rw [HCN.out]; exact HOK.out.perm
      have HPM := Lib.hid ((permB_iff _ _).1 hp0)
      clear hp0
      have HNN := Lib.hid HF.out.hN
      have hl9 : x.l.length ≤ 100000 := fam_short HOK.out
      have HETK := Lib.hid (exclL_take F.C x.l)
      have HBD : Hid (∀ k, 0 ≤ exclL F.C (x.l.take k) ∧ exclL F.C (x.l.take k) ≤ 65536 * 100000) := Lib.hid fun k => by
        have h1 := exclL_bd F.C (x.l.take k) 65536 (fun y hy => by
          have h2 := (permB_iff _ _).1 HOK.out.perm y (List.mem_of_mem_take hy)
          have h3 := HF.out.hN
          omega)
        have h4 := List.length_take_le' k x.l
        omega
      have HVOL : Hid (x.vol.n = x.n ∧ x.vol.r = x.r ∧ x.vol.l = x.l) := Lib.hid ⟨rfl, rfl, rfl⟩
      rw [HVOL.out.1, HVOL.out.2.1, HVOL.out.2.2]
      generalize F.C = C at *
      have hC9 : C.length ≤ 65536 := by rw [HCN.out]; exact HNN.out
      clear HOK HF HTS HR HGET HRNG HAT HH2 HI2 HX2 HRX HVOL
      go_wp2_with fail
      go_loopw [10] (fun i wr => ∃ k : Nat, k ≤ x.l.length ∧ i = .int .i64 k ∧ IH w wr (some ⟨b, o, none⟩) F.N ts.length c X T x ⟨x.nm, x.n, x.r, lenL x.l, exclL C (x.l.take k)⟩ ∧ OwnI wr (T + 1) (.slice ca C.length cc) C) (fun i _ => x.l.length - (intOf i).toNat)
      case atStart => exact ⟨0, Nat.zero_le _, rfl, HM5.out, HOC.out⟩
      case round =>
        clear HM5 HOC
        obtain ⟨k, hk, rfl, hm, hoc⟩ := hrel
        have HM := Lib.hid hm
        have HOC := Lib.hid hoc
        have v3 : wr.cell? ⟨X, 3, none⟩ = some (.slice x.a x.l.length x.c) := hm.vx.x3
        by_cases hlt : k < x.l.length
        · have hrl := (HL.out x HMEM.out).keep hm.bh.B
          obtain ⟨eb, eo, hea, hat⟩ := hrl.at (by omega)
          rw [hea] at v3
          have HAT2 := Lib.hid (hat k _ (List.getElem?_eq_getElem hlt))
          obtain ⟨y1, y2, y3⟩ := HPM.out _ (List.getElem_mem hlt)
          have HT := Lib.hid (HETK.out k hlt)
          obtain ⟨d1, d2⟩ := HBD.out k
          obtain ⟨d3, d4⟩ := HBD.out (k + 1)
          have HKY := Lib.hid (List.getElem?_eq_getElem hlt)
          generalize x.l[k] = y at *
          have HEX : Hid (exclL C (x.l.take (k + 1)) = exclL C (x.l.take (k + 1))) := Lib.hid rfl
          obtain ⟨ex1, hex1⟩ : ∃ e, exclL C (x.l.take (k + 1)) = e := ⟨_, rfl⟩
          replace HEX := Lib.hid hex1
          rw [hex1] at HT d3 d4
          clear hex1
          generalize exclL C (x.l.take k) = ex0 at *
          have a2 := HAT2.out.s
          clear hm hoc hrl hat
          have hk0 : (0 : Int) ≤ k := by omega
          have hk1 : (k : Int) < x.l.length := by omega
          go_wp2_with fail
          obtain ⟨s0, hs0⟩ : ∃ s0 : Nat, (s0 : Int) = y.s := ⟨y.s.toNat, by omega⟩
          obtain ⟨n0, hn0⟩ : ∃ n0 : Nat, (n0 : Int) = y.n := ⟨y.n.toNat, by omega⟩
          have HS0 := Lib.hid hs0
          have HN0 := Lib.hid hn0
          have HOX : Hid (ex1 = ex0 + area (fun j => oneB C (s0 + j)) n0) := Lib.hid (by rw [HT.out]; unfold oneX; rw [← hs0, ← hn0]; simp)
          have hsn : s0 + n0 ≤ C.length := by omega
          clear hs0 hn0 HT
          go_loopw [11] (fun t wi => ∃ p : Nat, p ≤ n0 ∧ t = .int .i64 ((s0 : Int) + p) ∧ IH w wi (some ⟨b, o, none⟩) F.N ts.length c X T x ⟨x.nm, x.n, x.r, lenL x.l, ex0 + area (fun j => oneB C (s0 + j)) p⟩ ∧ OwnI wi (T + 1) (.slice ca C.length cc) C) (fun t _ => (s0 + n0) - (intOf t).toNat)
          case atStart => exact ⟨0, Nat.zero_le _, by rw [← HS0.out]; simp, by simpa [area] using HM.out, HOC.out⟩
          case round =>
            clear HM HOC v3 a2 HAT2
            obtain ⟨p, hp, rfl, hmi, hoi⟩ := hrel
            have HA2 := Lib.hid (((HL.out x HMEM.out).keep hmi.bh.B).at (by omega))
            have HMI := Lib.hid hmi
            have HOI := Lib.hid hoi
            clear hmi hoi
            have q3 : wr.cell? ⟨X, 3, none⟩ = some (.slice x.a x.l.length x.c) := HMI.out.vx.x3
            rw [hea] at q3
            have hat3 : At wr eb eo k y := by
              obtain ⟨eb2, eo2, he2, hat2⟩ := HA2.out
              rw [hea] at he2
              injection he2 with he2
              injection he2 with h9 h10
              subst h9 h10
              exact hat2 k y HKY.out
            have HA3 := Lib.hid hat3
            clear hat3 HA2
            have z3 := q3
            have z1 := HA3.out.n
            have z2 := HA3.out.s
            have hw : IntKind.i64.wrap (y.s + y.n) = y.s + y.n := IntWalk.i64_in _ (by have := HCN.out; have := HNN.out; omega)
            by_cases hpn : p < n0
            · have hlb : decide ((s0 : Int) + p < y.s + y.n) = true := decide_eq_true (by have := HS0.out; have := HN0.out; omega)
              go_wp2_with fail
              refine wp_region_next (by kernel_rfl) (by kernel_rfl) ?_
              repeat (go_big_quiet_step (fail))
              refine wpQuiet_nil ?_
              intro _ hw'
              obtain ⟨nq, hw''⟩ := hw'
              subst hw''
              have HM2 := Lib.hid (HMI.out.later (World.below_next wr nq))
              have HO2 := Lib.hid (OwnI.keep HOI.out (World.below_next wr nq))
              have hsl : s0 + p < C.length := by omega
              obtain ⟨pa, pc, hpe, hpr⟩ := OwnI.rd HO2.out (by have := HCN.out; have := HNN.out; omega)
              injection hpe with hpe1 hpe2 hpe3
              subst hpe1
              obtain ⟨cb, co, hca, hatc⟩ := hpr.at (by omega)
              clear hpr hpe2 hpe3
              have h1 := hatc (s0 + p) _ (getD_some C (s0 + p) hsl)
              have hs1 : (0 : Int) ≤ (s0 : Int) + p := by omega
              have hs2 : (s0 : Int) + p < C.length := by omega
              have HAR : Hid (area (fun j => oneB C (s0 + j)) (p + 1) = area (fun j => oneB C (s0 + j)) p + if oneB C (s0 + p) = true then 1 else 0) := Lib.hid rfl
              have hal := area_le (fun j => oneB C (s0 + j)) p
              have hob : oneB C (s0 + p) = (C.getD (s0 + p) 0 == 1) := by unfold oneB; rw [Bool.eq_iff_iff]; simp
              rw [hob] at HAR
              generalize C.getD (s0 + p) 0 = cv at *
              generalize area (fun j => oneB C (s0 + j)) p = ar0 at *
              have h4 := HM2.out.it.t4
              have g4 := HM2.out.it.g4
              have hq9 : wrap64 (ex0 + (ar0 : Int) + 1) = ex0 + ar0 + 1 := by unfold wrap64; have := HCN.out; have := HNN.out; omega
              clear hob hatc q3 z3 z1 z2 HA3 HMI HOI hw
              cases hcv : (cv == 1)
              · have HE : Hid (area (fun j => oneB C (s0 + j)) (p + 1) = ar0) := Lib.hid (by rw [HAR.out, hcv]; simp)
                clear h4 g4 HAR
                go_wp2_with fail
                go_roundw
                case rel => exact ⟨p + 1, by omega, by go_num, by rw [HE.out]; exact HM2.out, HO2.out⟩
                case measure => simp [intOf]; omega
              · have HE : Hid (area (fun j => oneB C (s0 + j)) (p + 1) = ar0 + 1) := Lib.hid (by rw [HAR.out, hcv]; simp)
                have HM3 := Lib.hid (HM2.out.setx (ex0 + ar0 + 1))
                have HO3 := Lib.hid (OwnI.away HO2.out ⟨T, 4, none⟩ (.int .i64 (ex0 + ar0 + 1)) (fun e => by have := (OwnI.lt HO2.out _ e).1; simp only at this; omega))
                clear HAR
                go_wp2_with fail
                go_roundw
                case rel => exact ⟨p + 1, by omega, by go_num, by rw [HE.out, show ex0 + ((ar0 + 1 : Nat) : Int) = ex0 + ar0 + 1 by omega]; exact HM3.out, HO3.out⟩
                case measure => simp [intOf]; omega
            · have hpe : p = n0 := by omega
              subst hpe
              have hlb : decide ((s0 : Int) + p < y.s + y.n) = false := decide_eq_false (by have := HS0.out; have := HN0.out; omega)
              go_wp2_with fail
              refine wp_region_next (by kernel_rfl) (by kernel_rfl) ?_
              repeat (go_big_quiet_step (fail))
              refine wpQuiet_nil ?_
              intro _ hw'
              obtain ⟨nq, hw''⟩ := hw'
              subst hw''
              have HM2 := Lib.hid (HMI.out.later (World.below_next wr nq))
              have HO2 := Lib.hid (OwnI.keep HOI.out (World.below_next wr nq))
              clear q3 z3 z1 z2 HA3 HMI HOI hw
              go_wp2_with fail
              go_roundw
              case rel => exact ⟨k + 1, by omega, by go_num, by rw [HEX.out, HOX.out]; exact HM2.out, HO2.out⟩
              case measure => simp [intOf]; omega
        · obtain rfl : k = x.l.length := by omega
          rw [List.take_length] at HM
          have hm2 := HM.out
          have s0 := hm2.it.t0
          have s1 := hm2.it.t1
          have s2 := hm2.it.t2
          have s3 := hm2.it.t3
          have s4 := hm2.it.t4
          have HRI := Lib.hid hm2.ri
          clear hm hm2
          have r0 := HRI.out.r0
          have r1 := HRI.out.r1
          have r2 := HRI.out.r2
          have r3 := HRI.out.r3
          have r4 := HRI.out.r4
          have f0 := HRI.out.f0
          have f1 := HRI.out.f1
          have f2 := HRI.out.f2
          have f3 := HRI.out.f3
          have f4 := HRI.out.f4
          go_wp2_with fail
          have hj := HRI.out.cells ⟨x.nm, x.n, x.r, lenL x.l, exclL C x.l⟩
          have hbl := HRI.out.below ⟨x.nm, x.n, x.r, lenL x.l, exclL C x.l⟩
          show bodyPost _ _ _ _ _ (inf5 wr (w.heap.size + 1) ⟨x.nm, x.n, x.r, lenL x.l, exclL C x.l⟩)
          clear r0 r1 r2 r3 r4 f0 f1 f2 f3 f4 s0 s1 s2 s3 s4 v3 HM HOC
          generalize inf5 wr (w.heap.size + 1) ⟨x.nm, x.n, x.r, lenL x.l, exclL C x.l⟩ = W at hj hbl ⊢
          obtain ⟨j0, j1, j2, j3, j4⟩ := hj
          rw [← HKN.out]
          simp only [nmV] at j0
          have HBL := Lib.hid hbl
          clear hbl
          (try simp only [Exit.inBlock, Exit.then])
          refine bodyPost_ret (v := .tuple #[.agg #[.string ⟨x.nm.toArray⟩, .int .i64 x.n, .int .i64 x.r, .int .i64 (lenL x.l), .int .i64 (exclL C x.l)], .int .i64 0]) (by first | (rw [results_cell_tmp rfl]; go_simp; done) | (rw [results_cell_tmp2 rfl]; go_simp; done) | (rw [results_cell_one rfl]; go_simp; done)) rfl ?_
          exact ⟨rfl, HBL.out⟩
end Go.Proofs.YtpakjddfnhnndaaGreat
