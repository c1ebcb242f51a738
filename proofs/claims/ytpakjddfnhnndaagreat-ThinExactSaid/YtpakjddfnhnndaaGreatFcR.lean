/-
  tegulalaw36: the statements' helper same.
  Conditions: as the theorem says.
-/
import Derived.Test.YtpakjddfnhnndaaGreatFcN
import Derived.Test.YtpakjddfnhnndaaGreatFbE
namespace Go.Proofs.YtpakjddfnhnndaaGreat
set_option linter.unusedSimpArgs false
set_option linter.unusedVariables false
set_option maxRecDepth 100000
open Go.RowKit Go.Maps

theorem OwnS.rd {w : World} {B : Nat} {v : Value} {l : List (List UInt8)} (h : OwnS w B v l) : ∃ a c, v = .slice a l.length c ∧ (l = [] ∨ ∃ g, a = some ⟨g, 0, none⟩ ∧ ∀ k x, l[k]? = some x → w.cell? ⟨g, k, none⟩ = some (nmV x)) := by
  rcases h.2 with ⟨rfl, hn⟩ | ⟨g, cap, cur, rfl, hb, hg, hn, hc, hs, ht⟩
  · exact ⟨_, _, by rw [hn], .inl (List.eq_nil_of_length_eq_zero hn)⟩
  · refine ⟨_, _, rfl, .inr ⟨g, rfl, fun k x hk => ?_⟩⟩
    have hk' : k < l.length := (List.getElem?_eq_some_iff.1 hk).1
    rw [World.ownsRow.cellAt (cap := cap) h k (by omega), List.getElem?_map, hk]
    rfl
/-- The two families in their boxes. -/
structure SB (w W : World) (u v x y : Value) (F : Fam) : Prop where
  fb : Bx W w.heap.size 28 u v
  gb : Bx W (w.heap.size + 1) 45 x y
  fam : FamV W (.agg #[u, v]) F
  famr : FamR W (.agg #[x, y]) F
  B : Below w.heap.size w W
theorem SB.later {w W W' : World} {u v x y : Value} {F : Fam} (h : SB w W u v x y F) (hb : Below W.heap.size W W') : SB w W' u v x y F :=
  ⟨h.fb.later hb, h.gb.later hb, h.fam.keep hb, h.famr.keep hb, h.B.on hb⟩
theorem SB.init (w : World) (u v x y : Value) (F : Fam) (h1 : FamV w (.agg #[u, v]) F) (h2 : FamR w (.agg #[x, y]) F) (W : World) (hW : W = (w.alloc (.cells #[u, v] 28)).alloc (.cells #[x, y] 45)) : SB w W u v x y F := by
  subst hW
  have hk := ((Below.refl w.heap.size w).onAlloc (.cells #[u, v] 28)).onAlloc (.cells #[x, y] 45)
  exact ⟨(Bx.new w _ rfl u v _).later ((Below.refl _ _).onAlloc _), Bx.new _ _ (by simp) x y _, h1.keep hk, h2.keep hk, hk⟩
theorem info_of {F : Fam} (hF : F.ok) {v : Vol} (hv : v ∈ F.vs) : infoF F v.nm = (⟨v.nm, v.n, v.r, lenL v.l, singleC F.C v.l⟩, 0) := by
  unfold infoF
  rw [getV_of hF.sorted hv]
  rfl
theorem rinfo_r (F : Fam) (im : List UInt8) (i1 i2 i3 i4 e0 : Int) (gv : Value) (nm : List UInt8) (w : World) (hF : F.ok) (h : FamR w gv F) (hnm : nm.length ≤ maxLen) (he : infoF F nm = (⟨im, i1, i2, i3, i4⟩, e0)) :
    Calls Tryz.prog 33 #[gv, nmV nm] w fun e w' => e = .returned (.tuple #[.agg #[nmV im, .int .i64 i1, .int .i64 i2, .int .i64 i3, .int .i64 i4], .int .i64 e0]) ∧ Below w.heap.size w w' := by
  have := rinfo_is F gv nm w hF h hnm
  rwa [he] at this
theorem range_r (F : Fam) (L : List E) (e0 : Int) (fv : Value) (nm : List UInt8) (p q : Int) (w : World) (hF : F.ok) (h : FamV w fv F) (hn : nm.length ≤ maxLen) (hp : -9223372036854775808 ≤ p ∧ p ≤ 9223372036854775807) (hq : -9223372036854775808 ≤ q ∧ q ≤ 9223372036854775807) (he : rangeF F nm p q = (L, e0)) :
    Calls Tryz.prog 26 #[fv, nmV nm, .int .i64 p, .int .i64 q] w fun e w' => ∃ sv, e = .returned (.tuple #[sv, .int .i64 e0]) ∧ OwnE w' w.heap.size sv L ∧ Below w.heap.size w w' := by
  have := frange_is F fv nm p q w hF h hn hp hq
  rwa [he] at this
theorem slots_r (F : Fam) (N : Int) (fv : Value) (w : World) (hF : F.ok) (h : FamV w fv F) (hN : (F.N : Int) = N) : Calls Tryz.prog 28 #[fv] w fun e w' => e = .returned (.int .i64 N) ∧ Below w.heap.size w w' := by
  subst hN
  exact fslots_is F fv w hF h
theorem ofC_at (C : List Int) (k : Nat) (h : k < C.length) : ofC C k = C.getD k 0 := by
  unfold ofC
  rw [if_pos ⟨by omega, by omega⟩]
  simp
theorem ofC_no (C : List Int) (s : Int) (h : s < 0 ∨ C.length ≤ s) : ofC C s = 0 := if_neg (by omega)
/-- The slice of names at na reads. -/
def NmsR (w : World) (na : Option Addr) (l : List (List UInt8)) : Prop := l = [] ∨ ∃ g, na = some ⟨g, 0, none⟩ ∧ ∀ k x, l[k]? = some x → w.cell? ⟨g, k, none⟩ = some (nmV x)
theorem NmsR.keep {w w' : World} {na : Option Addr} {l : List (List UInt8)} (h : NmsR w na l) (hb : Below w.heap.size w w') : NmsR w' na l :=
  h.imp id fun ⟨g, h1, h2⟩ => ⟨g, h1, fun k x hk => hb.keep (h2 k x hk)⟩
def InfV (w1 : World) (i : Info) (p q : Value) (W : World) : Prop := ∃ T, p = .pointer (some ⟨T, 0, none⟩) ∧ q = .int .i64 0 ∧ IT W T i ∧ Below w1.heap.size w1 W
set_option maxHeartbeats 8000000 in
theorem same36_is (F : Fam) (fv gv : Value) (w : World) (hF : F.ok) (h9 : ∀ v ∈ F.vs, v.l.length ≤ 9000) (h1 : FamV w fv F) (h2 : FamR w gv F) :
    Calls Tryz.prog 34 #[fv, gv] w fun e w' => e = .returned (.bool true) ∧ Below w.heap.size w w' := by
  obtain ⟨fa, fc, fm, rfl⟩ := h1.form
  have hfr := h2
  obtain ⟨a, c, ts, rfl, hr, hl, hts, _⟩ := h2
  have HH := Lib.hid (SB.init w _ _ _ _ F h1 hfr _ rfl)
  have HR := Lib.hid hr
  have HL := Lib.hid hl
  have HTS := Lib.hid hts
  have HF := Lib.hid hF
  have H9 := Lib.hid h9
  have h32 := (fit_len hF hts).2
  have HLEN := Lib.hid (fit_len hF hts).1
  clear h1 hfr hr hl hts hF h9
  go_enter Tryz.func34, Tryz.ntmps34
  go_wp2_with fail
  have b0 := HH.out.fb.c0
  have b1 := HH.out.fb.c1
  refine (fnames_is F _ _ HF.out HH.out.fam).mono ?_
  rintro e w1 ⟨nv, rfl, hns, hb⟩
  obtain ⟨na, nc, rfl, hnr⟩ := hns.rd
  rw [List.length_map, ← HLEN.out]
  have HNR := Lib.hid hnr
  have HH := Lib.hid (HH.out.later hb)
  clear hnr hns hb b0 b1
  go_upto_region 2 with fail
  have HV := Lib.hid (HH.out.later (Below.refl _ _).drew)
  go_region_held3 (fun w' => w'.cell? ⟨w.heap.size, 0, none⟩ = some (.slice fa F.N fc) ∧ w'.cell? ⟨w.heap.size, 1, none⟩ = some (.map fm) ∧ w'.cell? ⟨w.heap.size + 1, 0, none⟩ = some (.int .i64 F.N) ∧ w'.cell? ⟨w.heap.size + 1, 1, none⟩ = some (.slice a ts.length c) ∧ Below w1.drew.heap.size w1.drew w')
    (first
      | with_reducible exact ⟨HV.out.fb.c0, HV.out.fb.c1, HV.out.gb.c0, HV.out.gb.c1, Below.refl _ _⟩
      | with_reducible exact ⟨HQ4.out.fb.c0, HQ4.out.fb.c1, HQ4.out.gb.c0, HQ4.out.gb.c1, hW4⟩
      | with_reducible exact ⟨HQ3.out.fb.c0, HQ3.out.fb.c1, HQ3.out.gb.c0, HQ3.out.gb.c1, hW3⟩
      | with_reducible exact ⟨HQ2.out.fb.c0, HQ2.out.fb.c1, HQ2.out.gb.c0, HQ2.out.gb.c1, hW2⟩
      | with_reducible exact ⟨HQ1.out.fb.c0, HQ1.out.fb.c1, HQ1.out.gb.c0, HQ1.out.gb.c1, hW1⟩)
    (first
      | (go_at_call 28; have hW := (‹_ ∧ _ ∧ _ ∧ _ ∧ Below w1.drew.heap.size w1.drew _›).2.2.2.2; refine (slots_r F F.N _ _ HF.out (HV.out.later hW).fam rfl).mono ?_; rintro e v1 ⟨rfl, hb1⟩; have hW1 := hW.on hb1; have HQ1 := Lib.hid (HV.out.later hW1))
      | (go_at_call 30; have hW := (‹_ ∧ _ ∧ _ ∧ _ ∧ Below w1.drew.heap.size w1.drew _›).2.2.2.2; refine (ffree_is F _ _ (HV.out.later hW).fam).mono ?_; rintro e v2 ⟨sv, rfl, ho2, hb2⟩; obtain ⟨za, zc, rfl, hz2⟩ := ho2.rd (by have := freeL_short F.C; omega); (try (have HZB := Lib.hid (HZB.out.keep hb2))); have HZA := Lib.hid hz2; have hW2 := hW.on hb2; have HQ2 := Lib.hid (HV.out.later hW2))
      | (go_at_call 81; have hW := (‹_ ∧ _ ∧ _ ∧ _ ∧ Below w1.drew.heap.size w1.drew _›).2.2.2.2; refine (rfree_is F _ _ HF.out (HV.out.later hW).famr).mono ?_; rintro e v3 ⟨sv, rfl, ho3, hb3⟩; obtain ⟨ya, yc, rfl, hz3⟩ := ho3.rd (by have := freeL_short F.C; omega); (try (have HZA := Lib.hid (HZA.out.keep hb3))); have HZB := Lib.hid hz3; have hW3 := hW.on hb3; have HQ3 := Lib.hid (HV.out.later hW3))
      | (go_at_call 27; have hW := (‹_ ∧ _ ∧ _ ∧ _ ∧ Below w1.drew.heap.size w1.drew _›).2.2.2.2; refine (same_is (zeroL F.C) (zeroL F.C) za ya zc yc true _ (sameB_refl _) HZA.out HZB.out).mono ?_; rintro e v4 ⟨rfl, hb4⟩; have hW4 := hW.on hb4; have HQ4 := Lib.hid (HV.out.later hW4)))
  have HH := Lib.hid (HV.out.later hW4)
  have HNR : Hid (NmsR v4 na (F.vs.map (·.nm))) := Lib.hid (NmsR.keep (show NmsR w1 na (F.vs.map (·.nm)) from HNR.out) ((Below.refl w1.heap.size w1).drew.on hW4))
  clear hW1 hW2 hW3 hW4 hb1 hb2 hb3 hb4 ho2 ho3 hz2 hz3 HQ1 HQ2 HQ3 HQ4 HZA HZB HV
  generalize v4 = W5 at *
  go_wp2_with fail
  go_loopw [6] (fun i wr => ∃ k : Nat, k ≤ ts.length ∧ i = .int .i64 k ∧ Below W5.heap.size W5 wr) (fun i _ => ts.length - (intOf i).toNat)
  case atStart => exact ⟨0, Nat.zero_le _, rfl, Below.refl _ _⟩
  case round =>
    obtain ⟨k, hk, rfl, hB⟩ := hrel
    have HM := Lib.hid (HH.out.later hB)
    have HNK := Lib.hid (HNR.out.keep hB)
    have HBL := Lib.hid hB
    clear hB
    by_cases hlt : k < ts.length
    · obtain ⟨b, o, hab, hat⟩ := (HR.out.keep HM.out.B).at (by omega)
      have hat2 := hat k _ (List.getElem?_eq_getElem hlt)
      have hmem : ts[k].vol ∈ F.vs := by rw [← HTS.out]; exact List.mem_map_of_mem (List.getElem_mem hlt)
      have hrl := HL.out _ (List.getElem_mem hlt)
      have hnk : NmsR wr na (F.vs.map (·.nm)) := HNK.out
      have hge : (F.vs.map (·.nm))[k]? = some ts[k].nm := by
        rw [← HTS.out, List.map_map, List.getElem?_map, List.getElem?_eq_getElem hlt]
        rfl
      obtain ⟨g, hna, hnm⟩ := hnk.resolve_left (fun e => by rw [e] at hge; simp at hge)
      have hnc := hnm k _ hge
      generalize ts[k] = z at *
      obtain ⟨nm, n, r, za, zc, l⟩ := z
      obtain ⟨e0, e1, e2, e3⟩ := hat2
      have hok := HF.out.vol _ hmem
      have HIF : Hid (infoF F nm = (⟨nm, n, r, lenL l, singleC F.C l⟩, 0)) := Lib.hid (info_of HF.out hmem)
      have HRG : Hid (rangeF F nm 0 n = (l, 0)) := Lib.hid (range_whole HF.out (getV_of HF.out.sorted hmem))
      have HRL := Lib.hid hrl
      have HMEM := Lib.hid hmem
      have HNL : Hid (nm.length ≤ maxLen) := Lib.hid (nameB_max hok.name)
      have HNN : Hid (1 ≤ n ∧ n ≤ 65536) := Lib.hid ⟨hok.n1, hok.n2⟩
      clear hok hmem hat hnm hge hnk hrl
      subst hab hna
      have c0 := HM.out.gb.c0
      have c1 := HM.out.gb.c1
      have hk0 : (0 : Int) ≤ k := by omega
      have hk1 : (k : Int) < ts.length := by omega
      have HX := Lib.hid (VX.new wr _ rfl ⟨nm, n, r, za, zc, l⟩ 56)
      have x0 := HX.out.x0
      have x1 := HX.out.x1
      have x2 := HX.out.x2
      have x3 := HX.out.x3
      go_upto_region 8 with fail
      have hkv := (Below.refl wr.heap.size wr).onAlloc (.cells #[nmV nm, .int .i64 n, .int .i64 r, .slice za l.length zc] 56)
      have HM7 := Lib.hid (HM.out.later hkv)
      have n7 := hkv.keep hnc
      have HX7 := HX
      have HBK := Lib.hid (HBL.out.on hkv)
      clear e0 e1 e2 e3 c0 c1 x0 x1 x2 x3 hnc hkv HM HX HBL HNK
      generalize wr.alloc (.cells #[nmV nm, .int .i64 n, .int .i64 r, .slice za l.length zc] 56) = W7 at *
      generalize wr.heap.size = X at *
      generalize singleC F.C l = sg at *
      go_cut [8, 9] from 50 to 59 (fun p q wx => InfV W7 ⟨nm, n, r, lenL l, sg⟩ p q wx)
      case first =>
        have HV := Lib.hid (HM7.out.later (Below.refl _ _).drew)
        have HN7 := Lib.hid ((Below.refl W7.heap.size W7).drew.keep n7)
        have HT0 : Hid (RI w (W7.alloc (.cells #[.string ⟨#[]⟩, .int .i64 0, .int .i64 0, .int .i64 0, .int .i64 0] 34)).drew W7.heap.size) := Lib.hid (RI.later (RI.new w W7 34 HM7.out.B) (Below.refl _ _).drew)
        have hAL : Below W7.drew.heap.size W7.drew (W7.alloc (.cells #[.string ⟨#[]⟩, .int .i64 0, .int .i64 0, .int .i64 0, .int .i64 0] 34)).drew := (Below.refl W7.drew.heap.size W7.drew).onAlloc (.cells #[.string ⟨#[]⟩, .int .i64 0, .int .i64 0, .int .i64 0, .int .i64 0] 34)
        have HAV := Lib.hid (HV.out.later hAL)
        have HAN := Lib.hid (hAL.keep HN7.out)
        have HAL := Lib.hid hAL
        clear hAL
        have h9d : W7.drew.heap.size = W7.heap.size := rfl
        go_region_held3 (fun w' => w'.cell? ⟨w.heap.size, 0, none⟩ = some (.slice fa F.N fc) ∧ w'.cell? ⟨w.heap.size, 1, none⟩ = some (.map fm) ∧ w'.cell? ⟨g, k, none⟩ = some (nmV nm) ∧ Below W7.drew.heap.size W7.drew w')
          (first
            | with_reducible exact ⟨HV.out.fb.c0, HV.out.fb.c1, HN7.out, Below.refl _ _⟩
            | with_reducible exact ⟨HAV.out.fb.c0, HAV.out.fb.c1, HAN.out, HAL.out⟩
            | with_reducible exact ⟨HP1.out.fb.c0, HP1.out.fb.c1, HP2.out, hW1⟩
            | with_reducible exact ⟨HP3.out.fb.c0, HP3.out.fb.c1, HP4.out, hW2⟩
            | with_reducible exact ⟨HP5.out.fb.c0, HP5.out.fb.c1, HP6.out, hW3⟩
            | with_reducible exact ⟨HP7.out.fb.c0, HP7.out.fb.c1, HP8.out, hW4⟩)
          (first
            | (go_at_call 20; have hW := (‹_ ∧ _ ∧ _ ∧ Below W7.drew.heap.size W7.drew _›).2.2.2; refine (info_r F nm n r (lenL l) sg 0 _ nm _ HF.out H9.out (HV.out.later hW).fam HNL.out HIF.out).mono ?_; rintro e v8 ⟨rfl, hb8⟩; have hW1 := hW.on hb8; have HP1 := Lib.hid (HV.out.later hW1); have HP2 := Lib.hid (hW1.keep HN7.out); have hW2 := hW1.onAlloc (.cells #[nmV nm, .int .i64 n, .int .i64 r, .int .i64 (lenL l), .int .i64 sg] 34); have HP3 := Lib.hid (HV.out.later hW2); have HP4 := Lib.hid (hW2.keep HN7.out); have hW3 := below_inf5 hW1 (T := W7.heap.size) (Nat.le_refl _) ⟨nm, n, r, lenL l, sg⟩; have HP5 := Lib.hid (HV.out.later hW3); have HP6 := Lib.hid (hW3.keep HN7.out); have hW4 := hW1.onAlloc (.cells #[.string ⟨#[]⟩, .int .i64 0, .int .i64 0, .int .i64 0, .int .i64 0] 34); have HP7 := Lib.hid (HV.out.later hW4); have HP8 := Lib.hid (hW4.keep HN7.out); (try (have HT3 := Lib.hid (HT0.out.later hb8); have t0 := HT3.out.r0; have t1 := HT3.out.r1; have t2 := HT3.out.r2; have t3 := HT3.out.r3; have t4 := HT3.out.r4; have s0 := HT3.out.f0; have s1 := HT3.out.f1; have s2 := HT3.out.f2; have s3 := HT3.out.f3; have s4 := HT3.out.f4))))
        · have h23 := (Below.refl W7.heap.size W7).drew.on hW1
          have HQ : Hid (InfV W7 ⟨nm, n, r, lenL l, sg⟩ (.pointer (some ⟨v8.heap.size, 0, none⟩)) (.int .i64 0) (v8.alloc (.cells #[nmV nm, .int .i64 n, .int .i64 r, .int .i64 (lenL l), .int .i64 sg] 34))) :=
            Lib.hid ⟨_, rfl, rfl, IT.new v8 _ rfl ⟨nm, n, r, lenL l, sg⟩ _, h23.onAlloc _⟩
          clear h23 hW1 hW2 hW3 hW4 hb8 hW
          go_wp2_with fail
          go_meet
          exact HQ.out
        · have h23 := (Below.refl W7.heap.size W7).drew.on hW1
          have HQ : Hid (InfV W7 ⟨nm, n, r, lenL l, sg⟩ (.pointer (some ⟨W7.heap.size, 0, none⟩)) (.int .i64 0) (inf5 v8 W7.heap.size ⟨nm, n, r, lenL l, sg⟩)) :=
            Lib.hid ⟨_, rfl, rfl, IT.of_ri HT3.out _, below_inf5 h23 (Nat.le_refl _) _⟩
          clear h23 hW1 hW2 hW3 hW4 hb8 hW t0 t1 t2 t3 t4 s0 s1 s2 s3 s4
          go_wp2_with fail
          go_meet
          exact HQ.out
      case rest =>
        obtain ⟨T, rfl, rfl, hit, hb8⟩ := hcut
        obtain ⟨W8, rfl⟩ : ∃ W2 : World, W2 = wc := ⟨_, rfl⟩
        have HM8 := Lib.hid (HM7.out.later hb8)
        have HIT := Lib.hid hit
        have HX8 := Lib.hid (HX7.out.later hb8)
        have n8 := hb8.keep n7
        have HB8 := Lib.hid (HBK.out.on hb8)
        clear hit hb8 n7 HX7 HM7 HBK
        have c0 := HM8.out.gb.c0
        have c1 := HM8.out.gb.c1
        have x0 := HX8.out.x0
        go_wp2_with fail
        refine (rinfo_r F nm n r (lenL l) sg 0 _ nm _ HF.out HM8.out.famr HNL.out HIF.out).mono ?_
        rintro e w9 ⟨rfl, hb⟩
        have hk := hb.onAlloc (.cells #[nmV nm, .int .i64 n, .int .i64 r, .int .i64 (lenL l), .int .i64 sg] 34)
        have HM9 := Lib.hid (HM8.out.later hk)
        have HI9 := Lib.hid (HIT.out.later hk)
        have HJ9 := Lib.hid (IT.new w9 _ rfl ⟨nm, n, r, lenL l, sg⟩ 34)
        have HX9 := Lib.hid (HX8.out.later hk)
        have HB9 := Lib.hid (HB8.out.on hk)
        replace n8 := hk.keep n8
        clear hb hk c0 c1 x0 HM8 HIT HX8 HB8
        go_upto_region 10 with fail
        generalize w9.alloc (.cells #[nmV nm, .int .i64 n, .int .i64 r, .int .i64 (lenL l), .int .i64 sg] 34) = W9 at *
        generalize w9.heap.size = T9 at *
        have HV := Lib.hid (HM9.out.later (Below.refl _ _).drew)
        have HN9 := Lib.hid ((Below.refl W9.heap.size W9).drew.keep n8)
        have HXV := Lib.hid (HX9.out.later (Below.refl _ _).drew)
        clear n8
        go_region_held3 (fun w' => w'.cell? ⟨w.heap.size, 0, none⟩ = some (.slice fa F.N fc) ∧ w'.cell? ⟨w.heap.size, 1, none⟩ = some (.map fm) ∧ w'.cell? ⟨g, k, none⟩ = some (nmV nm) ∧ w'.cell? ⟨X, 1, none⟩ = some (.int .i64 n) ∧ Below W9.drew.heap.size W9.drew w')
          (first
            | with_reducible exact ⟨HV.out.fb.c0, HV.out.fb.c1, HN9.out, HXV.out.x1, Below.refl _ _⟩
            | with_reducible exact ⟨HP1.out.fb.c0, HP1.out.fb.c1, HP2.out, HP3.out.x1, hW1⟩)
          (first
            | (go_at_call 26; have hW := (‹_ ∧ _ ∧ _ ∧ _ ∧ Below W9.drew.heap.size W9.drew _›).2.2.2.2; refine (range_r F l 0 _ nm 0 n _ HF.out (HV.out.later hW).fam HNL.out (by omega) (by have := HNN.out; omega) HRG.out).mono ?_; rintro e v10 ⟨sv, rfl, ho10, hb10⟩; have hW1 := hW.on hb10; have HP1 := Lib.hid (HV.out.later hW1); have HP2 := Lib.hid (hW1.keep HN9.out); have HP3 := Lib.hid (HXV.out.later hW1)))
        all_goals
          obtain ⟨qa, qc, rfl, hq⟩ := ho10.rd (by have := (H9.out _ HMEM.out); have h : l.length ≤ 9000 := this; omega)
          have h9 := (Below.refl W9.heap.size W9).drew.on hW1
          have HI := Lib.hid (HI9.out.later h9)
          have HJ := Lib.hid (HJ9.out.later h9)
          have HX := Lib.hid (HX9.out.later h9)
          have HQ := Lib.hid hq
          have HBF := Lib.hid (HB9.out.on h9)
          clear hq ho10 hb10 hW1 hW h9 HP1 HP2 HP3 HV HN9 HXV
          have i0 := HI.out.t0
          have i1 := HI.out.t1
          have i2 := HI.out.t2
          have i3 := HI.out.t3
          have i4 := HI.out.t4
          have j0 := HJ.out.t0
          have j1 := HJ.out.t1
          have j2 := HJ.out.t2
          have j3 := HJ.out.t3
          have j4 := HJ.out.t4
          have x3 := HX.out.x3
          go_wp2_with fail
          refine (same_is l l qa za qc zc true _ (sameB_refl _) HQ.out (Rd.keep (HH.out.B.on HBF.out) HRL.out)).mono ?_
          rintro e v11 ⟨rfl, hb11⟩
          have HBE := Lib.hid (HBF.out.on hb11)
          clear hb11 i0 i1 i2 i3 i4 j0 j1 j2 j3 j4 x3
          go_wp2_with fail
          go_roundw
          case rel => exact ⟨k + 1, by omega, by go_num, HBE.out⟩
          case measure => simp [intOf]; omega
    · obtain rfl : k = ts.length := by omega
      have c0 := HM.out.gb.c0
      have c1 := HM.out.gb.c1
      go_wp2_with fail
      refine (rcounts_of F F.C rfl ts a c _ HF.out HTS.out (HR.out.keep HM.out.B) (HL.out.keep HM.out.B)).mono ?_
      rintro e w6 ⟨cv, rfl, ho6, hb6⟩
      have HCL := Lib.hid F.C_length
      obtain ⟨ca, cc, rfl, hrc⟩ := ho6.rd (by rw [HCL.out]; exact HF.out.hN)
      have HRC := Lib.hid hrc
      have HM6 := Lib.hid (HM.out.later hb6)
      have hC9 : F.C.length ≤ 65536 := by rw [HCL.out]; exact HF.out.hN
      have HOF : Hid (∀ k : Nat, k < F.C.length → ofC F.C k = F.C.getD k 0) := Lib.hid fun k hk => ofC_at F.C k hk
      have HO1 : Hid (ofC F.C (-1) = 0) := Lib.hid (ofC_no F.C (-1) (by omega))
      have HO2 : Hid (ofC F.C F.C.length = 0) := Lib.hid (ofC_no F.C F.C.length (by omega))
      clear hrc ho6 hb6 c0 c1 HM HNK HBL
      go_wp2_with fail
      go_loopw [15] (fun i wr => ∃ k : Nat, k ≤ F.C.length ∧ i = .int .i64 k ∧ Below w6.heap.size w6 wr) (fun i _ => F.C.length - (intOf i).toNat)
      case atStart => exact ⟨0, Nat.zero_le _, rfl, Below.refl _ _⟩
      case round =>
        obtain ⟨k, hk2, rfl, hB⟩ := hrel
        have HM := Lib.hid (HM6.out.later hB)
        have HBL := Lib.hid hB
        have b0 := HM.out.fb.c0
        have b1 := HM.out.fb.c1
        by_cases hlt : k < F.C.length
        · obtain ⟨ib, io, rfl, hat⟩ := (HRC.out.keep hB).at (by omega)
          have h1 := hat k _ (getD_some F.C k hlt)
          have HOK := Lib.hid (HOF.out k hlt)
          have hk0 : (0 : Int) ≤ k := by omega
          have hk1 : (k : Int) < F.C.length := by omega
          generalize F.C.getD k 0 = cv at *
          clear hat hB
          go_wp2_with fail
          refine wp_region_next (by kernel_rfl) (by kernel_rfl) ?_
          repeat (go_big_quiet_step ((go_at_call 29; exact Calls.next_of (count_r F _ k cv _ (HM.out.fam.keep (World.below_next _ _)) HOK.out))))
          refine wpQuiet_nil ?_
          intro _ hw'
          obtain ⟨nq, hw''⟩ := hw'
          subst hw''
          have HBE := Lib.hid (HBL.out.on (World.below_next wr nq))
          clear h1 b0 b1 HM
          go_wp2_with fail
          go_roundw
          case rel => exact ⟨k + 1, by omega, by go_num, HBE.out⟩
          case measure => simp [intOf]; omega
        · obtain rfl : k = F.C.length := by omega
          have HM0 := HM
          clear hB
          go_wp2_with fail
          refine (count_r F _ (-1) 0 _ HM.out.fam HO1.out).mono ?_
          rintro e w7 ⟨rfl, hb⟩
          have HM := Lib.hid (HM.out.later hb)
          clear hb b0 b1
          have b0 := HM.out.fb.c0
          have b1 := HM.out.fb.c1
          go_wp2_with fail
          refine (count_r F _ F.C.length 0 _ HM.out.fam HO2.out).mono ?_
          rintro e w8 ⟨rfl, hb⟩
          have hB8 := HM.out.B.on hb
          clear hb b0 b1
          go_wp2_with fail
          go_ret
          exact ⟨rfl, hB8⟩
end Go.Proofs.YtpakjddfnhnndaaGreat
