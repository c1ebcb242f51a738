/-
  thin: claim, Claim, enough.
  thin: Claims.
  thin: Room, CanCreate.
  thin: CanClone.
  thin: Need.
  tegularef37: Claim, Claims.
  tegularef37: Free, Room.
  tegularef37: exclusive, Need.
  tegularef37: CanCreate, CanClone, CanWrite, Lowest.
  Conditions: as each theorem says.
-/
import Derived.Test.YtpakjddfnhnndaaGreatGI
import Derived.Test.YtpakjddfnhnndaaGreatFcP
import Derived.Test.YtpakjddfnhnndaaGreatGS
import Derived.Test.YtpakjddfnhnndaaGreatFbE
import Derived.Test.YtpakjddfnhnndaaGreatFcR
namespace Go.Proofs.YtpakjddfnhnndaaGreat
set_option linter.unusedSimpArgs false
set_option linter.unusedVariables false
set_option maxRecDepth 100000
open Go.RowKit Go.Maps

theorem tclaim_info (im : List UInt8) (i1 i2 i3 i4 : Int) (w : World) (h : 0 ≤ i2 ∧ i2 ≤ 65536 ∧ 0 ≤ i4 ∧ i4 ≤ 65536) :
    Calls Tryz.prog 92 #[.agg #[nmV im, .int .i64 i1, .int .i64 i2, .int .i64 i3, .int .i64 i4]] w fun e w' => e = .returned (.int .i64 (max 0 (i2 - i4))) ∧ Below w.heap.size w w' := by
  have hk := (Below.refl w.heap.size w).onAlloc (.cells #[nmV im, .int .i64 i1, .int .i64 i2, .int .i64 i3, .int .i64 i4] 34)
  go_enter Tryz.func92, Tryz.ntmps92
  go_wp2_with fail
  go_ret
  exact ⟨rfl, hk⟩
theorem enough_is (a b : Int) (w : World) (v : Int) (hv : enoughN a b = v) :
    Calls Tryz.prog 96 #[.int .i64 a, .int .i64 b] w fun e w' => e = .returned (.int .i64 v) ∧ Below w.heap.size w w' := by
  have hB := Below.refl w.heap.size w
  subst hv
  unfold enoughN
  by_cases h : a > b
  · rw [if_pos h]
    go_enter Tryz.func96, Tryz.ntmps96
    go_wp2_with fail
    go_ret
    exact ⟨rfl, hB⟩
  · rw [if_neg h]
    go_enter Tryz.func96, Tryz.ntmps96
    go_wp2_with fail
    go_ret
    exact ⟨rfl, hB⟩
theorem claim_none {F : Fam} {nm : List UInt8} (h : getV F.vs nm = none) : infoF F nm = (⟨[], 0, 0, 0, 0⟩, 9) ∧ claimF F nm = (0, 9) := by
  unfold infoF claimF
  rw [h]
  exact ⟨rfl, rfl⟩
theorem claim_some {F : Fam} {nm : List UInt8} {v : Vol} (h : getV F.vs nm = some v) : infoF F nm = (⟨v.nm, v.n, v.r, lenL v.l, singleC F.C v.l⟩, 0) ∧ claimF F nm = (max 0 (v.r - singleC F.C v.l), 0) := by
  unfold infoF claimF
  rw [h]
  exact ⟨rfl, rfl⟩
theorem single_bd {F : Fam} (hF : F.ok) {v : Vol} (hv : v ∈ F.vs) : 0 ≤ singleC F.C v.l ∧ singleC F.C v.l ≤ 65536 := by
  have h1 := area_le (fun i => listB v.l i && oneB F.C i) F.C.length
  have h2 := hF.hN
  rw [F.C_length] at h1
  unfold singleC
  rw [F.C_length]
  omega
/-- Info's result, whatever the name. -/
theorem info_cases {F : Fam} (hF : F.ok) (nm : List UInt8) : ∃ im i1 i2 i3 i4 e0, infoF F nm = (⟨im, i1, i2, i3, i4⟩, e0) ∧ claimF F nm = (max 0 (i2 - i4), e0) ∧ 0 ≤ i2 ∧ i2 ≤ 65536 ∧ 0 ≤ i4 ∧ i4 ≤ 65536 := by
  cases hg : getV F.vs nm with
  | none => exact ⟨[], 0, 0, 0, 0, 9, (claim_none hg).1, (claim_none hg).2, by omega⟩
  | some v =>
    have hm := (getV_mem hg).1
    have hv := hF.vol v hm
    have h1 := single_bd hF hm
    have h2 := hv.r1
    have h4 := hv.r0
    have h5 := hv.n2
    have h3 := hv.n1
    exact ⟨v.nm, v.n, v.r, _, _, 0, (claim_some hg).1, (claim_some hg).2, by omega, by omega, h1.1, h1.2⟩
set_option maxHeartbeats 1000000 in
theorem tclaim_is (F : Fam) (k e0 : Int) (fv : Value) (nm : List UInt8) (w : World) (hF : F.ok) (hs : ∀ v ∈ F.vs, v.l.length ≤ 9000) (h : FamV w fv F) (hnm : nm.length ≤ maxLen) (he : claimF F nm = (k, e0)) :
    Calls Tryz.prog 41 #[fv, nmV nm] w fun e w' => e = .returned (.tuple #[.int .i64 k, .int .i64 e0]) ∧ Below w.heap.size w w' := by
  obtain ⟨im, i1, i2, i3, i4, e1, hi, hc, hi2⟩ := info_cases hF nm
  rw [hc] at he
  obtain ⟨rfl, rfl⟩ := Prod.mk.inj he
  obtain ⟨a, c, mb, rfl⟩ := h.form
  have hb := (Below.refl w.heap.size w).onAlloc (.cells #[.slice a F.N c, .map mb] 28)
  have HI := Lib.hid (info_r F im i1 i2 i3 i4 e1 _ nm _ hF hs (h.keep hb) hnm hi)
  have HB := Lib.hid hb
  have HI2 := Lib.hid hi2
  clear he hc hi hi2 hb h hs hF
  go_enter Tryz.func41, Tryz.ntmps41
  go_wp2_with fail
  refine HI.out.mono ?_
  rintro e w1 ⟨rfl, hb⟩
  have HB1 := Lib.hid (HB.out.on hb)
  clear hb
  go_wp2_with fail
  refine (tclaim_info im i1 i2 i3 i4 _ (by have := HI2.out; omega)).mono ?_
  rintro e w2 ⟨rfl, hb⟩
  have HB2 := Lib.hid ((HB1.out.onAlloc _).on hb)
  clear hb
  go_wp2_with fail
  go_ret2
  exact ⟨rfl, HB2.out⟩
end Go.Proofs.YtpakjddfnhnndaaGreat

namespace Go.Proofs.YtpakjddfnhnndaaGreat
set_option linter.unusedSimpArgs false
set_option linter.unusedVariables false
set_option maxRecDepth 100000
open Go.RowKit Go.Maps

/-- Claims' memory: the family's box, then the sum. -/
structure CM (w W : World) (u v : Value) (F : Fam) (s : Int) : Prop where
  b0 : W.cell? ⟨w.heap.size, 0, none⟩ = some u
  b1 : W.cell? ⟨w.heap.size, 1, none⟩ = some v
  t : W.cell? ⟨w.heap.size + 1, 0, none⟩ = some (.int .i64 s)
  f : W.frozen? ⟨w.heap.size + 1, 0, none⟩ = false
  fam : FamV W (.agg #[u, v]) F
  B : Below w.heap.size w W
theorem CM.later {w W W' : World} {u v : Value} {F : Fam} {s : Int} (h : CM w W u v F s) (hb : Below W.heap.size W W') : CM w W' u v F s :=
  ⟨hb.keep h.b0, hb.keep h.b1, hb.keep h.t, hb.keepF h.t h.f, h.fam.keep hb, h.B.on hb⟩
theorem CM.put {w W : World} {u v : Value} {F : Fam} {s : Int} (h : CM w W u v F s) (hf : FamV w (.agg #[u, v]) F) (k : Int) : CM w (W.setCell ⟨w.heap.size + 1, 0, none⟩ (.int .i64 k)) u v F k := by
  have hB := h.B.setCell (p := ⟨w.heap.size + 1, 0, none⟩) (by simp only; omega) (.int .i64 k)
  refine ⟨(cell_far (Nat.ne_of_lt (Nat.lt_succ_self _))).trans h.b0, (cell_far (Nat.ne_of_lt (Nat.lt_succ_self _))).trans h.b1, World.cell?_setCell_same _ _ _ h.t, by rw [World.frozen?_setCell]; exact h.f, hf.keep hB, hB⟩
theorem CM.init (w : World) (u v : Value) (F : Fam) (hf : FamV w (.agg #[u, v]) F) : CM w ((w.alloc (.cells #[u, v] 28)).alloc (.cells #[.int .i64 0] 3)) u v F 0 := by
  have hB := ((Below.refl w.heap.size w).onAlloc (.cells #[u, v] 28)).onAlloc (.cells #[.int .i64 0] 3)
  have e : (w.alloc (.cells #[u, v] 28)).heap.size = w.heap.size + 1 := by simp
  refine ⟨((Below.refl _ _).onAlloc _).keep (by simp), ((Below.refl _ _).onAlloc _).keep (by simp), ?_, ?_, hf.keep hB, hB⟩
  · rw [← e, World.cell?_alloc_new]
    rfl
  · rw [← e]
    simp
def AddPost (w W : World) (u v : Value) (F : Fam) (s : Int) (na : Option Addr) (l : List (List UInt8)) (e : Ending) (W' : World) : Prop := e = .returned (.tuple #[]) ∧ CM w W' u v F s ∧ NmsR W' na l
theorem NmsR.put {W : World} {na : Option Addr} {l : List (List UInt8)} (h : NmsR W na l) {T : Nat} {s : Int} (ht : W.cell? ⟨T, 0, none⟩ = some (.int .i64 s)) (k : Value) : NmsR (W.setCell ⟨T, 0, none⟩ k) na l := by
  refine h.imp id fun ⟨g, h1, h2⟩ => ⟨g, h1, fun j x hj => ?_⟩
  by_cases hg : g = T
  · subst hg
    cases l with
    | nil => simp at hj
    | cons y r =>
      have := h2 0 y rfl
      rw [ht] at this
      cases this
  · exact (cell_far hg).trans (h2 j x hj)
set_option maxHeartbeats 1000000 in
theorem tadd_is (F : Fam) (k e0 s q : Int) (u v : Value) (nm : List UInt8) (w W : World) (na : Option Addr) (l : List (List UInt8)) (hF : F.ok) (hs : ∀ v ∈ F.vs, v.l.length ≤ 9000) (hf : FamV w (.agg #[u, v]) F) (h : CM w W u v F s) (hn : NmsR W na l) (hnm : nm.length ≤ maxLen) (he : claimF F nm = (k, e0)) (hk : 0 ≤ k ∧ k ≤ 65536) (hq : 0 ≤ s ∧ s ≤ 1000000000) (hq2 : s + k = q) :
    Calls Tryz.prog 93 #[nmV nm, .pointer (some ⟨w.heap.size, 0, none⟩), .pointer (some ⟨w.heap.size + 1, 0, none⟩)] W (AddPost w W u v F q na l) := by
  have HH := Lib.hid h
  have HN := Lib.hid hn
  have HF := Lib.hid hf
  have b0 := h.b0
  have b1 := h.b1
  have HI := Lib.hid (tclaim_is F k e0 _ nm _ hF hs h.fam hnm he)
  have HQ := Lib.hid hq2
  clear h hn hF hs hf he hq2
  obtain ⟨a, c, mb, hfv⟩ := HF.out.form
  obtain ⟨rfl, rfl⟩ : u = .slice a F.N c ∧ v = .map mb := by simpa using hfv
  clear hfv
  go_enter Tryz.func93, Tryz.ntmps93
  go_wp2_with fail
  refine HI.out.mono ?_
  rintro e w1 ⟨rfl, hb⟩
  have HH := Lib.hid (HH.out.later hb)
  have HN := Lib.hid (HN.out.keep hb)
  clear hb b0 b1
  have t0 := HH.out.t
  have f0 := HH.out.f
  go_wp2_with fail
  rw [HQ.out]
  go_end0
  exact ⟨rfl, HH.out.put HF.out _, HN.out.put HH.out.t _⟩
theorem claim_mem {F : Fam} (hF : F.ok) {v : Vol} (hv : v ∈ F.vs) : claimF F v.nm = (claimV F.C v, 0) := by
  unfold claimF
  rw [getV_of hF.sorted hv]
theorem claimV_le {F : Fam} (hF : F.ok) {v : Vol} (hv : v ∈ F.vs) : 0 ≤ claimV F.C v ∧ claimV F.C v ≤ 65536 := by
  have h1 := hF.vol v hv
  have h2 := h1.r0
  have h3 := h1.r1
  have h4 := h1.n2
  have h5 := claimV_bd F.C v h2
  omega
def sumV (C : List Int) (vs : List Vol) : Int := (vs.map (claimV C)).sum
theorem sumV_take (C : List Int) (vs : List Vol) (k : Nat) (h : k < vs.length) : sumV C (vs.take (k + 1)) = sumV C (vs.take k) + claimV C vs[k] := by
  unfold sumV
  rw [List.take_succ_eq_append_getElem h, List.map_append, List.sum_append]
  simp
theorem sumV_le {C : List Int} {vs : List Vol} (h : ∀ v ∈ vs, 0 ≤ claimV C v ∧ claimV C v ≤ 65536) : 0 ≤ sumV C vs ∧ sumV C vs ≤ 65536 * vs.length := by
  induction vs with
  | nil => simp [sumV]
  | cons x r ih =>
    have h1 := ih fun v hv => h v (by simp [hv])
    have h2 := h x (by simp)
    unfold sumV at h1 ⊢
    simp only [List.map_cons, List.sum_cons, List.length_cons]
    omega
theorem claims_le {F : Fam} (hF : F.ok) (k : Nat) : 0 ≤ sumV F.C (F.vs.take k) ∧ sumV F.C (F.vs.take k) ≤ 2097152 := by
  have h1 := sumV_le (C := F.C) (vs := F.vs.take k) fun v hv => claimV_le hF (List.mem_of_mem_take hv)
  have h2 := hF.few
  have h3 : (F.vs.take k).length ≤ F.vs.length := by rw [List.length_take]; omega
  omega
set_option maxHeartbeats 2000000 in
theorem tclaims_is (F : Fam) (q : Int) (fv : Value) (w : World) (hF : F.ok) (hs : ∀ v ∈ F.vs, v.l.length ≤ 9000) (h : FamV w fv F) (hq : claimsF F = q) :
    Calls Tryz.prog 43 #[fv] w fun e w' => e = .returned (.int .i64 q) ∧ Below w.heap.size w w' := by
  obtain ⟨fa, fc, fm, rfl⟩ := h.form
  have HH := Lib.hid (CM.init w _ _ F h)
  have HF := Lib.hid hF
  have HS := Lib.hid hs
  have HW := Lib.hid h
  have HQ := Lib.hid hq
  have h32 := hF.few
  clear hF hs h hq
  go_enter Tryz.func43, Tryz.ntmps43
  go_wp2_with fail
  have b0 := HH.out.b0
  have b1 := HH.out.b1
  refine (fnames_is F _ _ HF.out HH.out.fam).mono ?_
  rintro e w1 ⟨nv, rfl, hns, hb⟩
  obtain ⟨na, nc, rfl, hnr⟩ := hns.rd
  rw [List.length_map]
  have HNR : Hid (NmsR w1 na (F.vs.map (·.nm))) := Lib.hid hnr
  have HH := Lib.hid (HH.out.later hb)
  clear hnr hns hb b0 b1
  go_wp2_with fail
  go_loopw [11] (fun i wr => ∃ k : Nat, k ≤ F.vs.length ∧ i = .int .i64 k ∧ CM w wr (.slice fa F.N fc) (.map fm) F (sumV F.C (F.vs.take k)) ∧ NmsR wr na (F.vs.map (·.nm))) (fun i _ => F.vs.length - (intOf i).toNat)
  case atStart => exact ⟨0, Nat.zero_le _, rfl, HH.out, HNR.out⟩
  case round =>
    obtain ⟨k, hk, rfl, hc, hn⟩ := hrel
    have HC := Lib.hid hc
    have HN := Lib.hid hn
    clear hc hn
    by_cases hlt : k < F.vs.length
    · have hn := HN.out
      have hge : (F.vs.map (·.nm))[k]? = some F.vs[k].nm := by
        rw [List.getElem?_map, List.getElem?_eq_getElem hlt]
        rfl
      obtain ⟨g, hna, hnm⟩ := hn.resolve_left (fun e => by rw [e] at hge; simp at hge)
      subst hna
      have hnc := hnm k _ hge
      have hmem := List.getElem_mem hlt
      have HT := Lib.hid (sumV_take F.C F.vs k hlt)
      have HCL := Lib.hid (claim_mem HF.out hmem)
      have HLE := Lib.hid (claimV_le HF.out hmem)
      have HNL : Hid (F.vs[k].nm.length ≤ maxLen) := Lib.hid (nameB_max (HF.out.vol _ hmem).name)
      have HSB := Lib.hid (claims_le HF.out k)
      have hk0 : (0 : Int) ≤ k := by omega
      have hk1 : (k : Int) < F.vs.length := by omega
      clear hmem hge hnm hn
      generalize F.vs[k].nm = nm at *
      generalize claimV F.C F.vs[k] = cv at *
      generalize sumV F.C (F.vs.take k) = sm at *
      go_wp2_with fail
      refine (tadd_is F cv 0 sm _ _ _ nm w _ _ _ HF.out HS.out HW.out HC.out HN.out HNL.out HCL.out HLE.out ⟨HSB.out.1, by have := HSB.out.2; omega⟩ HT.out.symm).mono ?_
      rintro e w2 ⟨rfl, hc, hn⟩
      have HC2 := Lib.hid hc
      have HN2 := Lib.hid hn
      clear hnc hc hn
      go_wp2_with fail
      go_roundw
      case rel => exact ⟨k + 1, by omega, by go_num, HC2.out, HN2.out⟩
      case measure => simp [intOf]; omega
    · obtain rfl : k = F.vs.length := by omega
      have hc := HC.out
      rw [List.take_length] at hc
      have t0 := hc.t
      have e : sumV F.C F.vs = q := HQ.out
      rw [e] at t0
      have hB := hc.B
      clear hc e
      go_wp2_with fail
      go_ret
      exact ⟨rfl, hB⟩
end Go.Proofs.YtpakjddfnhnndaaGreat

namespace Go.Proofs.YtpakjddfnhnndaaGreat
set_option linter.unusedSimpArgs false
set_option linter.unusedVariables false
set_option maxRecDepth 100000
open Go.RowKit Go.Maps

theorem lenL_bd2 (l : List E) (M : Int) (h : ∀ x ∈ l, 0 ≤ x.n ∧ x.n ≤ M) : 0 ≤ lenL l ∧ lenL l ≤ M * l.length := by
  induction l with
  | nil => simp [lenL]
  | cons x r ih =>
    have h1 := ih fun y hy => h y (by simp [hy])
    have h2 := h x (by simp)
    rw [lenL_cons, List.length_cons, show ((r.length + 1 : Nat) : Int) = r.length + 1 by omega, Int.mul_add]
    omega
theorem free_part (C : List Int) (k : Nat) : 0 ≤ lenL ((zeroL C).take k) ∧ lenL ((zeroL C).take k) ≤ 4294967296 := by
  have h1 := lenL_bd2 ((zeroL C).take k) 65536 fun x hx => by
    have := (okB_iff x).1 ((runs_facts (picks (zeroB C) C.length)).1.1 x (List.mem_of_mem_take hx)).2
    omega
  have h2 := freeL_short C
  have h3 : ((zeroL C).take k).length ≤ (zeroL C).length := by rw [List.length_take]; omega
  omega
theorem room_bd {F : Fam} (hF : F.ok) : -2097152 ≤ roomF F ∧ roomF F ≤ 65536 := by
  have h1 := area_le (zeroB F.C) F.N
  have h2 := hF.hN
  have h3 := claims_le hF F.vs.length
  rw [List.take_length] at h3
  have h4 : claimsF F = sumV F.C F.vs := rfl
  unfold roomF freeN
  omega
structure RM (w W : World) (u v : Value) (F : Fam) : Prop where
  b0 : W.cell? ⟨w.heap.size, 0, none⟩ = some u
  b1 : W.cell? ⟨w.heap.size, 1, none⟩ = some v
  fam : FamV W (.agg #[u, v]) F
  B : Below w.heap.size w W
theorem RM.later {w W W' : World} {u v : Value} {F : Fam} (h : RM w W u v F) (hb : Below W.heap.size W W') : RM w W' u v F :=
  ⟨hb.keep h.b0, hb.keep h.b1, h.fam.keep hb, h.B.on hb⟩
theorem RM.init (w : World) (u v : Value) (F : Fam) (hf : FamV w (.agg #[u, v]) F) : RM w (w.alloc (.cells #[u, v] 28)) u v F := by
  have hB := (Below.refl w.heap.size w).onAlloc (.cells #[u, v] 28)
  exact ⟨by simp, by simp, hf.keep hB, hB⟩
set_option maxHeartbeats 2000000 in
theorem troom_is (F : Fam) (q : Int) (fv : Value) (w : World) (hF : F.ok) (hs : ∀ v ∈ F.vs, v.l.length ≤ 9000) (h : FamV w fv F) (hq : roomF F = q) :
    Calls Tryz.prog 45 #[fv] w fun e w' => e = .returned (.int .i64 q) ∧ Below w.heap.size w w' := by
  obtain ⟨fa, fc, fm, rfl⟩ := h.form
  have HH := Lib.hid (RM.init w _ _ F h)
  have HF := Lib.hid hF
  have HS := Lib.hid hs
  have hc1 := claims_le hF F.vs.length
  rw [List.take_length] at hc1
  have HQ : Hid (lenL (zeroL F.C) - sumV F.C F.vs = q) := Lib.hid (by rw [free_len hF]; exact hq)
  have HCS : Hid (claimsF F = sumV F.C F.vs) := Lib.hid rfl
  clear hF hs h hq
  generalize sumV F.C F.vs = cs at *
  go_enter Tryz.func45, Tryz.ntmps45
  go_wp2_with fail
  have b0 := HH.out.b0
  have b1 := HH.out.b1
  refine (tclaims_is F cs _ _ HF.out HS.out HH.out.fam HCS.out).mono ?_
  rintro e w1 ⟨rfl, hb⟩
  have HH := Lib.hid (HH.out.later hb)
  clear hb b0 b1
  have b0 := HH.out.b0
  have b1 := HH.out.b1
  go_wp2_with fail
  refine (ffree_is F _ _ HH.out.fam).mono ?_
  rintro e w2 ⟨sv, rfl, ho, hb⟩
  have hfl := freeL_short F.C
  obtain ⟨za, zc, rfl, hz⟩ := ho.rd (by omega)
  have HZ := Lib.hid hz
  have HP := Lib.hid (free_part F.C)
  have HB := Lib.hid (HH.out.B.on hb)
  clear ho hb b0 b1 hz HH HF HS
  generalize zeroL F.C = Z at *
  go_wp2_with fail
  go_loopw [3, 12] (fun v i wr => ∃ k : Nat, k ≤ Z.length ∧ i = .int .i64 k ∧ v = .int .i64 (-cs + lenL (Z.take k)) ∧ Below w2.heap.size w2 wr) (fun _ i _ => Z.length - (intOf i).toNat)
  case atStart => exact ⟨0, Nat.zero_le _, rfl, by simp [lenL], Below.refl _ _⟩
  case round =>
    obtain ⟨k, hk, rfl, rfl, hB⟩ := hrel
    by_cases hlt : k < Z.length
    · obtain ⟨b, o, rfl, hat⟩ := (HZ.out.keep hB).at (by omega)
      obtain ⟨h1, h2, h3⟩ := hat k _ (List.getElem?_eq_getElem hlt)
      have HT := Lib.hid (lenL_take Z k hlt)
      have q1 := HP.out k
      have q2 := HP.out (k + 1)
      rw [HT.out] at q2
      have hk0 : (0 : Int) ≤ k := by omega
      have hk1 : (k : Int) < Z.length := by omega
      generalize Z[k] = x at *
      generalize lenL (Z.take k) = sm at *
      obtain ⟨xa, xn, xs⟩ := x
      simp only at h1 h2 h3 q2
      have HBK := Lib.hid (hB.onAlloc (.cells #[.int .i64 xa, .int .i64 xn, .int .i64 xs] 65))
      clear hat hB
      go_wp2_with fail
      go_roundw
      case rel => exact ⟨k + 1, by omega, by go_num, by rw [HT.out]; simp [Int.add_assoc], HBK.out⟩
      case measure => simp [intOf]; omega
    · obtain rfl : k = Z.length := by omega
      rw [List.take_length]
      have e : -cs + lenL Z = q := by have := HQ.out; omega
      rw [e]
      have hR := HB.out.on hB
      clear hB e
      go_wp2_with fail
      go_ret
      exact ⟨rfl, hR⟩
theorem numB_cases (n r : Int) : (numB n r = true ∧ 1 ≤ n ∧ n ≤ 65536 ∧ 0 ≤ r ∧ r ≤ n) ∨ (numB n r = false ∧ (n < 1 ∨ (1 ≤ n ∧ (65536 < n ∨ (n ≤ 65536 ∧ (r < 0 ∨ (0 ≤ r ∧ n < r))))))) := by
  unfold numB
  by_cases h : 1 ≤ n ∧ n ≤ 65536 ∧ 0 ≤ r ∧ r ≤ n
  · exact .inl ⟨by simp [h], h⟩
  · exact .inr ⟨by simpa using h, by omega⟩
set_option maxHeartbeats 2000000 in
theorem tcreate_is (F : Fam) (q : Int) (fv : Value) (n r : Int) (w : World) (hF : F.ok) (hs : ∀ v ∈ F.vs, v.l.length ≤ 9000) (h : FamV w fv F) (hq : canCreateF F n r = q) :
    Calls Tryz.prog 53 #[fv, .int .i64 n, .int .i64 r] w fun e w' => e = .returned (.int .i64 q) ∧ Below w.heap.size w w' := by
  obtain ⟨fa, fc, fm, rfl⟩ := h.form
  have HH := Lib.hid (RM.init w _ _ F h)
  have HF := Lib.hid hF
  have HS := Lib.hid hs
  clear hF hs h
  rcases numB_cases n r with ⟨hn, hn2⟩ | ⟨hn, hn2⟩
  · have HQ : Hid (enoughN r (roomF F) = q) := Lib.hid (by rw [← hq]; unfold canCreateF; rw [hn, if_neg (by simp)])
    clear hn hq
    go_enter Tryz.func53, Tryz.ntmps53
    have b0 := HH.out.b0
    have b1 := HH.out.b1
    go_wp2_with fail
    refine (troom_is F _ _ _ HF.out HS.out HH.out.fam rfl).mono ?_
    rintro e w1 ⟨rfl, hb⟩
    have HB := Lib.hid (HH.out.B.on hb)
    clear hb b0 b1
    generalize roomF F = rm at *
    go_wp2_with fail
    refine (enough_is _ _ _ _ HQ.out).mono ?_
    rintro e w2 ⟨rfl, hb⟩
    have hR := HB.out.on hb
    clear hb
    go_wp2_with fail
    go_ret
    exact ⟨rfl, hR⟩
  · have hq2 : (1 : Int) = q := by rw [← hq]; unfold canCreateF; rw [hn, if_pos rfl]
    subst hq2
    have hB := HH.out.B
    clear hn hq HH
    rcases hn2 with h1 | ⟨h1, h2 | ⟨h2, h3 | ⟨h3, h4⟩⟩⟩
    all_goals
      go_enter Tryz.func53, Tryz.ntmps53
      go_wp2_with fail
      go_ret
      exact ⟨rfl, hB⟩
end Go.Proofs.YtpakjddfnhnndaaGreat

namespace Go.Proofs.YtpakjddfnhnndaaGreat
set_option linter.unusedSimpArgs false
set_option linter.unusedVariables false
set_option maxRecDepth 100000
open Go.RowKit Go.Maps

theorem canclone_cases {F : Fam} (hF : F.ok) (nm : List UInt8) : (infoF F nm = (⟨[], 0, 0, 0, 0⟩, 9) ∧ canCloneF F nm = 9) ∨ ∃ im i1 i2 i3 i4, infoF F nm = (⟨im, i1, i2, i3, i4⟩, 0) ∧ canCloneF F nm = enoughN (i2 - max 0 (i2 - i4)) (roomF F) ∧ 0 ≤ i2 ∧ i2 ≤ 65536 ∧ 0 ≤ i4 ∧ i4 ≤ 65536 := by
  cases hg : getV F.vs nm with
  | none => exact .inl ⟨(claim_none hg).1, by unfold canCloneF; rw [hg]⟩
  | some v =>
    have hm := (getV_mem hg).1
    have hv := hF.vol v hm
    have h1 := single_bd hF hm
    have h2 := hv.r1
    have h4 := hv.r0
    have h5 := hv.n2
    exact .inr ⟨v.nm, v.n, v.r, _, _, (claim_some hg).1, by unfold canCloneF; rw [hg]; rfl, h4, by omega, h1.1, h1.2⟩
theorem tclaim_m (im : List UInt8) (i1 i2 i3 i4 m : Int) (w : World) (h : 0 ≤ i2 ∧ i2 ≤ 65536 ∧ 0 ≤ i4 ∧ i4 ≤ 65536) (hm : max 0 (i2 - i4) = m) :
    Calls Tryz.prog 92 #[.agg #[nmV im, .int .i64 i1, .int .i64 i2, .int .i64 i3, .int .i64 i4]] w fun e w' => e = .returned (.int .i64 m) ∧ Below w.heap.size w w' := by
  subst hm
  exact tclaim_info im i1 i2 i3 i4 w h
set_option maxHeartbeats 4000000 in
theorem tclone_is (F : Fam) (q : Int) (fv : Value) (nm : List UInt8) (w : World) (hF : F.ok) (hs : ∀ v ∈ F.vs, v.l.length ≤ 9000) (h : FamV w fv F) (hnm : nm.length ≤ maxLen) (hq : canCloneF F nm = q) :
    Calls Tryz.prog 51 #[fv, nmV nm] w fun e w' => e = .returned (.int .i64 q) ∧ Below w.heap.size w w' := by
  obtain ⟨fa, fc, fm, rfl⟩ := h.form
  have HH := Lib.hid (RM.init w _ _ F h)
  have HF := Lib.hid hF
  have HS := Lib.hid hs
  clear hs h
  rcases canclone_cases hF nm with ⟨hi, hc⟩ | ⟨im, i1, i2, i3, i4, hi, hc, hb⟩
  · have hq2 : (9 : Int) = q := by rw [← hq, hc]
    subst hq2
    have HI := Lib.hid hi
    clear hi hc hq hF
    go_enter Tryz.func51, Tryz.ntmps51
    have b0 := HH.out.b0
    have b1 := HH.out.b1
    go_wp2_with fail
    refine (info_r F [] 0 0 0 0 9 _ nm _ HF.out HS.out HH.out.fam hnm HI.out).mono ?_
    rintro e w1 ⟨rfl, hb⟩
    have hB := (HH.out.B.on hb).onAlloc (.cells #[nmV [], .int .i64 0, .int .i64 0, .int .i64 0, .int .i64 0] 34)
    clear hb b0 b1 HH
    go_wp2_with fail
    go_ret
    exact ⟨rfl, hB⟩
  · have HQ : Hid (enoughN (i2 - max 0 (i2 - i4)) (roomF F) = q) := Lib.hid (by rw [← hq, hc])
    have HI := Lib.hid hi
    have HB := Lib.hid hb
    have HRB := Lib.hid (room_bd hF)
    clear hi hc hq hF hb
    go_enter Tryz.func51, Tryz.ntmps51
    have b0 := HH.out.b0
    have b1 := HH.out.b1
    go_wp2_with fail
    refine (info_r F im i1 i2 i3 i4 0 _ nm _ HF.out HS.out HH.out.fam hnm HI.out).mono ?_
    rintro e w1 ⟨rfl, hb⟩
    have hk := hb.onAlloc (.cells #[nmV im, .int .i64 i1, .int .i64 i2, .int .i64 i3, .int .i64 i4] 34)
    have HH := Lib.hid (HH.out.later hk)
    have HT := Lib.hid (IT.new w1 _ rfl ⟨im, i1, i2, i3, i4⟩ 34)
    clear hb hk b0 b1
    go_upto_region 4 with fail
    generalize w1.alloc (.cells #[nmV im, .int .i64 i1, .int .i64 i2, .int .i64 i3, .int .i64 i4] 34) = W at *
    generalize w1.heap.size = T at *
    obtain ⟨rm, hr⟩ : ∃ rm, roomF F = rm := ⟨_, rfl⟩
    rw [hr] at HQ HRB
    have HR := Lib.hid hr
    clear hr
    have hmx : 0 ≤ max 0 (i2 - i4) ∧ max 0 (i2 - i4) ≤ 65536 := by have := HB.out; omega
    obtain ⟨hb1, hb2, _, _⟩ := HB.out
    obtain ⟨mx, hr⟩ : ∃ mx, max 0 (i2 - i4) = mx := ⟨_, rfl⟩
    rw [hr] at HQ hmx
    obtain ⟨hm1, hm2⟩ := hmx
    have HMX := Lib.hid hr
    clear hr
    have b0 := HH.out.b0
    have b1 := HH.out.b1
    have t0 := HT.out.t0
    have t1 := HT.out.t1
    have t2 := HT.out.t2
    have t3 := HT.out.t3
    have t4 := HT.out.t4
    refine wp_region_next (by kernel_rfl) (by kernel_rfl) ?_
    repeat (go_big_quiet_step ((first | (go_at_call 92; exact Calls.next_of (tclaim_m im i1 i2 i3 i4 mx _ HB.out HMX.out)) | (go_at_call 45; exact Calls.next_of (troom_is F rm _ _ HF.out HS.out (HH.out.fam.keep (World.below_next _ _)) HR.out)) | (go_at_call 96; exact Calls.next_of (enough_is _ _ _ q HQ.out)))))
    refine wpQuiet_nil ?_
    intro _ hw'
    obtain ⟨nq, hw''⟩ := hw'
    subst hw''
    have hB := HH.out.B.on (World.below_next W nq)
    clear b0 b1 t0 t1 t2 t3 t4
    go_wp2_with fail
    go_ret
    exact ⟨rfl, hB⟩
end Go.Proofs.YtpakjddfnhnndaaGreat

namespace Go.Proofs.YtpakjddfnhnndaaGreat
set_option linter.unusedSimpArgs false
set_option linter.unusedVariables false
set_option maxRecDepth 100000
open Go.RowKit Go.Maps

/-- Range's result, whatever the arguments. -/
theorem need_cases {F : Fam} (hF : F.ok) (hs : ∀ v ∈ F.vs, v.l.length ≤ 9000) (nm : List UInt8) (p n : Int) : (∃ e0, e0 ≠ 0 ∧ rangeF F nm p n = ([], e0) ∧ needF F nm p n = (0, e0)) ∨
    ∃ L, rangeF F nm p n = (L, 0) ∧ needF F nm p n = (n - exclL F.C L, 0) ∧ 0 ≤ n ∧ n ≤ 65536 ∧ permB F.N L = true ∧ L.length ≤ 65536 := by
  rcases range_cases F nm p n with ⟨hg, hc⟩ | ⟨v, hg, ⟨hn, hc⟩ | ⟨hn, hc⟩⟩
  · exact .inl ⟨9, by decide, hc, by unfold needF; rw [hc]; rfl⟩
  · exact .inl ⟨2, by decide, hc, by unfold needF; rw [hc]; rfl⟩
  · have hm := (getV_mem hg).1
    have hv := hF.vol v hm
    have h1 := (inB_iff _ _ _).1 hn
    have h2 := hv.n2
    have h3 := (inL_facts v.l p n (validB_ok hv.valid)).1
    have h4 := hv.short.1
    exact .inr ⟨inL v.l p n, hc, by unfold needF; rw [hc]; rfl, by omega, by omega, perm_in p n hv.perm, by omega⟩
set_option maxHeartbeats 4000000 in
theorem tneed_is (F : Fam) (k e0 : Int) (fv : Value) (nm : List UInt8) (p n : Int) (w : World) (hF : F.ok) (hs : ∀ v ∈ F.vs, v.l.length ≤ 9000) (h : FamV w fv F) (hnm : nm.length ≤ maxLen) (hp : -9223372036854775808 ≤ p ∧ p ≤ 9223372036854775807) (hn : -9223372036854775808 ≤ n ∧ n ≤ 9223372036854775807) (hq : needF F nm p n = (k, e0)) :
    Calls Tryz.prog 47 #[fv, nmV nm, .int .i64 p, .int .i64 n] w fun e w' => e = .returned (.tuple #[.int .i64 k, .int .i64 e0]) ∧ Below w.heap.size w w' := by
  obtain ⟨fa, fc, fm, rfl⟩ := h.form
  have HH := Lib.hid (RM.init w _ _ F h)
  have HF := Lib.hid hF
  have HS := Lib.hid hs
  clear h
  rcases need_cases hF hs nm p n with ⟨e1, he, hr, hc⟩ | ⟨L, hr, hc, hn1, hn2, hpm, hlen⟩
  · rw [hc] at hq
    obtain ⟨rfl, rfl⟩ := Prod.mk.inj hq
    have HR := Lib.hid hr
    clear hc hq hr hF hs
    go_enter Tryz.func47, Tryz.ntmps47
    have b0 := HH.out.b0
    have b1 := HH.out.b1
    go_wp2_with fail
    refine (range_r F [] e1 _ nm p n _ HF.out HH.out.fam hnm hp hn HR.out).mono ?_
    rintro e w1 ⟨sv, rfl, ho, hb⟩
    obtain ⟨sa, sc, rfl, _⟩ := ho.rd (by simp)
    have HB := Lib.hid (HH.out.B.on hb)
    have hz : (e1 == 0) = false := by simpa using he
    clear hb ho b0 b1 HH he
    go_wp2_with fail
    go_ret2
    exact ⟨rfl, HB.out⟩
  · rw [hc] at hq
    obtain ⟨hk, rfl⟩ := Prod.mk.inj hq
    have HR := Lib.hid hr
    have HK := Lib.hid hk
    have HC9 := Lib.hid F.C_length
    have HN9 := Lib.hid hF.hN
    have HPM := Lib.hid ((permB_iff _ _).1 hpm)
    have HETK := Lib.hid (exclL_take F.C L)
    have HBD : Hid (∀ k, 0 ≤ exclL F.C (L.take k) ∧ exclL F.C (L.take k) ≤ 65536 * 65536) := Lib.hid fun k => by
      have h1 := exclL_bd F.C (L.take k) 65536 (fun y hy => by
        have h2 := (permB_iff _ _).1 hpm y (List.mem_of_mem_take hy)
        have h3 := hF.hN
        omega)
      have h4 := List.length_take_le' k L
      omega
    clear hc hq hr hk hpm hF hs
    go_enter Tryz.func47, Tryz.ntmps47
    have b0 := HH.out.b0
    have b1 := HH.out.b1
    go_wp2_with fail
    refine (range_r F L 0 _ nm p n _ HF.out HH.out.fam hnm hp hn HR.out).mono ?_
    rintro e w1 ⟨sv, rfl, ho, hb⟩
    obtain ⟨sa, sc, rfl, hl⟩ := ho.rd (by omega)
    have HL := Lib.hid hl
    have HH1 := Lib.hid (HH.out.later hb)
    clear hb ho hl b0 b1 HH
    go_wp2_with fail
    go_loopw [3, 28] (fun v i wr => ∃ k : Nat, k ≤ L.length ∧ i = .int .i64 k ∧ v = .int .i64 (n - exclL F.C (L.take k)) ∧ Below w1.heap.size w1 wr) (fun _ i _ => L.length - (intOf i).toNat)
    case atStart => exact ⟨0, Nat.zero_le _, rfl, by simp [exclL], Below.refl _ _⟩
    case round =>
      obtain ⟨k, hk, rfl, rfl, hB⟩ := hrel
      by_cases hlt : k < L.length
      · obtain ⟨b, o, rfl, hat⟩ := (HL.out.keep hB).at (by omega)
        obtain ⟨h1, h2, h3⟩ := hat k _ (List.getElem?_eq_getElem hlt)
        have HT := Lib.hid (HETK.out k hlt)
        obtain ⟨y1, y2, y3⟩ := HPM.out _ (List.getElem_mem hlt)
        obtain ⟨d1, d2⟩ := HBD.out k
        have hk0 : (0 : Int) ≤ k := by omega
        have hk1 : (k : Int) < L.length := by omega
        generalize L[k] = x at *
        obtain ⟨xa, xn, xs⟩ := x
        simp only at h1 h2 h3 y1 y2 y3
        obtain ⟨s0, rfl⟩ := Int.eq_ofNat_of_zero_le y2
        obtain ⟨n0, rfl⟩ := Int.eq_ofNat_of_zero_le (show 0 ≤ xn by omega)
        have HOX : Hid (exclL F.C (L.take (k + 1)) = exclL F.C (L.take k) + area (fun j => oneB F.C (s0 + j)) n0) := Lib.hid (by rw [HT.out]; rfl)
        generalize exclL F.C (L.take k) = ex at *
        have hBK := hB.onAlloc (.cells #[.int .i64 xa, .int .i64 n0, .int .i64 s0] 65)
        have HBK := Lib.hid hBK
        have HH2 := Lib.hid (HH1.out.later hBK)
        have hx1 : (wr.alloc (.cells #[.int .i64 xa, .int .i64 n0, .int .i64 s0] 65)).cell? ⟨wr.heap.size, 1, none⟩ = some (.int .i64 n0) := by simp
        have hx2 : (wr.alloc (.cells #[.int .i64 xa, .int .i64 n0, .int .i64 s0] 65)).cell? ⟨wr.heap.size, 2, none⟩ = some (.int .i64 s0) := by simp
        have HX1 := Lib.hid hx1
        have HX2 := Lib.hid hx2
        have hsn : s0 + n0 ≤ F.N := by omega
        have hN9 : F.N ≤ 65536 := HN9.out
        clear hat hB hBK HT
        go_wp2_with fail
        clear h1 h2 h3 hx1 hx2
        generalize wr.alloc (.cells #[.int .i64 xa, .int .i64 n0, .int .i64 s0] 65) = W2 at *
        generalize wr.heap.size = X at *
        go_loopw [3, 14] (fun v t wi => ∃ p : Nat, p ≤ n0 ∧ t = .int .i64 ((s0 : Int) + p) ∧ v = .int .i64 (n - ex - area (fun j => oneB F.C (s0 + j)) p) ∧ Below W2.heap.size W2 wi) (fun _ t _ => (s0 + n0) - (intOf t).toNat)
        case atStart => exact ⟨0, Nat.zero_le _, by simp, by simp [area], Below.refl _ _⟩
        case round =>
          obtain ⟨p, hp, rfl, rfl, hBi⟩ := hrel
          have x1 := hBi.keep HX1.out
          have x2 := hBi.keep HX2.out
          have a1 := area_le (fun j => oneB F.C (s0 + j)) p
          by_cases hpn : p < n0
          · have HM := Lib.hid (HH2.out.later hBi)
            have HBI := Lib.hid hBi
            have b0 := HM.out.b0
            have b1 := HM.out.b1
            have HOF : Hid (ofC F.C ((s0 : Int) + p) = F.C.getD (s0 + p) 0) := Lib.hid (by
              have := ofC_at F.C (s0 + p) (by rw [HC9.out]; omega)
              rwa [show ((s0 + p : Nat) : Int) = (s0 : Int) + p by omega] at this)
            have HA : Hid (area (fun j => oneB F.C (s0 + j)) (p + 1) = area (fun j => oneB F.C (s0 + j)) p + (if F.C.getD (s0 + p) 0 = 1 then 1 else 0)) := Lib.hid (by simp [area, oneB])
            generalize F.C.getD (s0 + p) 0 = cv at *
            generalize area (fun j => oneB F.C (s0 + j)) p = ar at *
            clear hBi
            by_cases hc : cv = 1
            · subst hc
              go_wp2_with fail
              refine (count_r F _ _ 1 _ HM.out.fam HOF.out).mono ?_
              rintro e w3 ⟨rfl, hb⟩
              have HBE := Lib.hid (HBI.out.on hb)
              clear hb b0 b1 x1 x2
              go_wp2_with fail
              go_roundw
              case rel => exact ⟨p + 1, by omega, by go_num, by rw [HA.out, if_pos trivial]; congr 1; omega, HBE.out⟩
              case measure => simp [intOf]; omega
            · have hcf : (cv == 1) = false := by simpa using hc
              rw [if_neg hc] at HA
              clear hc
              go_wp2_with fail
              refine (count_r F _ _ cv _ HM.out.fam HOF.out).mono ?_
              rintro e w3 ⟨rfl, hb⟩
              have HBE := Lib.hid (HBI.out.on hb)
              clear hb b0 b1 x1 x2
              go_wp2_with fail
              go_roundw
              case rel => exact ⟨p + 1, by omega, by go_num, by rw [HA.out]; rfl, HBE.out⟩
              case measure => simp [intOf]; omega
          · obtain rfl : p = n0 := by omega
            have HBE := Lib.hid (HBK.out.on hBi)
            clear hBi
            go_wp2_with fail
            go_roundw
            case rel => exact ⟨k + 1, by omega, by go_num, by rw [HOX.out]; congr 1; omega, HBE.out⟩
            case measure => simp [intOf]; omega
      · obtain rfl : k = L.length := by omega
        rw [List.take_length]
        rw [HK.out]
        have hR := HH1.out.B.on hB
        clear hB
        go_wp2_with fail
        go_ret2
        exact ⟨rfl, hR⟩
theorem claimF_bd {F : Fam} (hF : F.ok) (nm : List UInt8) : 0 ≤ (claimF F nm).1 ∧ (claimF F nm).1 ≤ 65536 := by
  obtain ⟨im, i1, i2, i3, i4, e0, _, hc, h⟩ := info_cases hF nm
  rw [hc]
  simp only
  omega
set_option maxHeartbeats 4000000 in
theorem twrite_is (F : Fam) (q : Int) (fv : Value) (nm : List UInt8) (p n : Int) (w : World) (hF : F.ok) (hs : ∀ v ∈ F.vs, v.l.length ≤ 9000) (h : FamV w fv F) (hnm : nm.length ≤ maxLen) (hp : -9223372036854775808 ≤ p ∧ p ≤ 9223372036854775807) (hn : -9223372036854775808 ≤ n ∧ n ≤ 9223372036854775807) (hq : canWriteF F nm p n = q) :
    Calls Tryz.prog 49 #[fv, nmV nm, .int .i64 p, .int .i64 n] w fun e w' => e = .returned (.int .i64 q) ∧ Below w.heap.size w w' := by
  obtain ⟨fa, fc, fm, rfl⟩ := h.form
  have HH := Lib.hid (RM.init w _ _ F h)
  have HF := Lib.hid hF
  have HS := Lib.hid hs
  have HCB := Lib.hid (claimF_bd hF nm)
  have HRB := Lib.hid (room_bd hF)
  unfold canWriteF at hq
  obtain ⟨nd, hnd⟩ : ∃ nd, needF F nm p n = nd := ⟨_, rfl⟩
  obtain ⟨nk, e0⟩ := nd
  rw [hnd] at hq
  simp only at hq
  have HN := Lib.hid hnd
  clear h hnd hF hs
  by_cases he : e0 = 0
  · subst he
    rw [if_pos rfl] at hq
    obtain ⟨ck, hck⟩ : ∃ ck, claimF F nm = ck := ⟨_, rfl⟩
    obtain ⟨cv, ce⟩ := ck
    rw [hck] at hq HCB
    obtain ⟨rm, hrm⟩ : ∃ rm, roomF F = rm := ⟨_, rfl⟩
    rw [hrm] at hq HRB
    have HC := Lib.hid hck
    have HR := Lib.hid hrm
    have HQ := Lib.hid hq
    obtain ⟨c1, c2⟩ := HCB.out
    obtain ⟨r1, r2⟩ := HRB.out
    simp only at c1 c2
    clear hck hrm hq
    go_enter Tryz.func49, Tryz.ntmps49
    have b0 := HH.out.b0
    have b1 := HH.out.b1
    go_wp2_with fail
    refine (tneed_is F nk 0 _ nm p n _ HF.out HS.out HH.out.fam hnm hp hn HN.out).mono ?_
    rintro e w1 ⟨rfl, hb⟩
    have HH := Lib.hid (HH.out.later hb)
    clear hb b0 b1
    have b0 := HH.out.b0
    have b1 := HH.out.b1
    go_wp2_with fail
    refine (tclaim_is F cv ce _ nm _ HF.out HS.out HH.out.fam hnm HC.out).mono ?_
    rintro e w2 ⟨rfl, hb⟩
    have HH := Lib.hid (HH.out.later hb)
    clear hb b0 b1
    have b0 := HH.out.b0
    have b1 := HH.out.b1
    go_wp2_with fail
    refine (troom_is F rm _ _ HF.out HS.out HH.out.fam HR.out).mono ?_
    rintro e w3 ⟨rfl, hb⟩
    have HH := Lib.hid (HH.out.later hb)
    clear hb b0 b1
    go_wp2_with fail
    refine (enough_is _ _ _ q HQ.out).mono ?_
    rintro e w4 ⟨rfl, hb⟩
    have hB := HH.out.B.on hb
    clear hb
    go_wp2_with fail
    go_ret
    exact ⟨rfl, hB⟩
  · rw [if_neg he] at hq
    subst hq
    have hz : (e0 == 0) = false := by simpa using he
    clear he
    go_enter Tryz.func49, Tryz.ntmps49
    have b0 := HH.out.b0
    have b1 := HH.out.b1
    go_wp2_with fail
    refine (tneed_is F nk e0 _ nm p n _ HF.out HS.out HH.out.fam hnm hp hn HN.out).mono ?_
    rintro e w1 ⟨rfl, hb⟩
    have hB := HH.out.B.on hb
    clear hb b0 b1 HH
    go_wp2_with fail
    go_ret
    exact ⟨rfl, hB⟩
end Go.Proofs.YtpakjddfnhnndaaGreat

namespace Go.Proofs.YtpakjddfnhnndaaGreat
set_option linter.unusedSimpArgs false
set_option linter.unusedVariables false
set_option maxRecDepth 100000
open Go.RowKit Go.Maps

/-- The head of a function of the reference: the family's box. -/
structure QM (w W : World) (u v : Value) (F : Fam) : Prop where
  b0 : W.cell? ⟨w.heap.size, 0, none⟩ = some u
  b1 : W.cell? ⟨w.heap.size, 1, none⟩ = some v
  fam : FamR W (.agg #[u, v]) F
  B : Below w.heap.size w W
theorem QM.later {w W W' : World} {u v : Value} {F : Fam} (h : QM w W u v F) (hb : Below W.heap.size W W') : QM w W' u v F :=
  ⟨hb.keep h.b0, hb.keep h.b1, h.fam.keep hb, h.B.on hb⟩
theorem QM.init (w : World) (u v : Value) (F : Fam) (hf : FamR w (.agg #[u, v]) F) : QM w (w.alloc (.cells #[u, v] 45)) u v F := by
  have hB := (Below.refl w.heap.size w).onAlloc (.cells #[u, v] 45)
  exact ⟨by simp, by simp, hf.keep hB, hB⟩
theorem info_cases2 {F : Fam} (hF : F.ok) (nm : List UInt8) : (∃ e0, e0 ≠ 0 ∧ infoF F nm = (⟨[], 0, 0, 0, 0⟩, e0) ∧ claimF F nm = (0, e0)) ∨ ∃ im i1 i2 i3 i4, infoF F nm = (⟨im, i1, i2, i3, i4⟩, 0) ∧ claimF F nm = (max 0 (i2 - i4), 0) ∧ 0 ≤ i2 ∧ i2 ≤ 65536 ∧ 0 ≤ i4 ∧ i4 ≤ 65536 := by
  cases hg : getV F.vs nm with
  | none => exact .inl ⟨9, by decide, (claim_none hg).1, (claim_none hg).2⟩
  | some v =>
    have hm := (getV_mem hg).1
    have hv := hF.vol v hm
    have h1 := single_bd hF hm
    have h2 := hv.r1
    have h4 := hv.r0
    have h5 := hv.n2
    exact .inr ⟨v.nm, v.n, v.r, _, _, (claim_some hg).1, (claim_some hg).2, h4, by omega, h1.1, h1.2⟩
set_option maxHeartbeats 2000000 in
theorem qclaim_is (F : Fam) (k e0 : Int) (gv : Value) (nm : List UInt8) (w : World) (hF : F.ok) (h : FamR w gv F) (hnm : nm.length ≤ maxLen) (he : claimF F nm = (k, e0)) :
    Calls Tryz.prog 42 #[gv, nmV nm] w fun e w' => e = .returned (.tuple #[.int .i64 k, .int .i64 e0]) ∧ Below w.heap.size w w' := by
  obtain ⟨a, m, c, rfl⟩ := h.form
  have HH := Lib.hid (QM.init w _ _ F h)
  have HF := Lib.hid hF
  clear h
  rcases info_cases2 hF nm with ⟨e1, hz, hi, hc⟩ | ⟨im, i1, i2, i3, i4, hi, hc, h1, h2, h3, h4⟩
  · rw [hc] at he
    obtain ⟨rfl, rfl⟩ := Prod.mk.inj he
    have HI := Lib.hid hi
    have hz : (e1 == 0) = false := by simpa using hz
    clear he hc hi hF
    go_enter Tryz.func42, Tryz.ntmps42
    have b0 := HH.out.b0
    have b1 := HH.out.b1
    go_wp2_with fail
    refine (rinfo_r F [] 0 0 0 0 e1 _ nm _ HF.out HH.out.fam hnm HI.out).mono ?_
    rintro e w1 ⟨rfl, hb⟩
    have hB := (HH.out.B.on hb).onAlloc (.cells #[nmV [], .int .i64 0, .int .i64 0, .int .i64 0, .int .i64 0] 34)
    clear hb b0 b1 HH
    go_wp2_with fail
    go_ret2
    exact ⟨rfl, hB⟩
  · rw [hc] at he
    obtain ⟨rfl, rfl⟩ := Prod.mk.inj he
    have HI := Lib.hid hi
    clear he hc hi hF
    go_enter Tryz.func42, Tryz.ntmps42
    have b0 := HH.out.b0
    have b1 := HH.out.b1
    go_wp2_with fail
    refine (rinfo_r F im i1 i2 i3 i4 0 _ nm _ HF.out HH.out.fam hnm HI.out).mono ?_
    rintro e w1 ⟨rfl, hb⟩
    have hB := (HH.out.B.on hb).onAlloc (.cells #[nmV im, .int .i64 i1, .int .i64 i2, .int .i64 i3, .int .i64 i4] 34)
    clear hb b0 b1 HH
    go_wp2_with fail
    go_ret2
    exact ⟨rfl, hB⟩
set_option maxHeartbeats 4000000 in
theorem qclaims_is (F : Fam) (q : Int) (gv : Value) (w : World) (hF : F.ok) (h : FamR w gv F) (hq : claimsF F = q) :
    Calls Tryz.prog 44 #[gv] w fun e w' => e = .returned (.int .i64 q) ∧ Below w.heap.size w w' := by
  have hfr := h
  obtain ⟨a, c, ts, rfl, hr, hl, hts, _⟩ := h
  have HH := Lib.hid (QM.init w _ _ F hfr)
  have HF := Lib.hid hF
  have HR := Lib.hid hr
  have HTS := Lib.hid hts
  have HLEN := Lib.hid (fit_len hF hts).1
  have h32 := (fit_len hF hts).2
  have HQ : Hid (sumV F.C F.vs = q) := Lib.hid hq
  clear hF hfr hr hl hts hq
  go_enter Tryz.func44, Tryz.ntmps44
  go_wp2_with fail
  go_loopw [3, 4] (fun v i wr => ∃ k : Nat, k ≤ ts.length ∧ i = .int .i64 k ∧ v = .int .i64 (sumV F.C (F.vs.take k)) ∧ QM w wr (.int .i64 F.N) (.slice a ts.length c) F) (fun _ i _ => ts.length - (intOf i).toNat)
  case atStart => exact ⟨0, Nat.zero_le _, rfl, rfl, HH.out⟩
  case round =>
    obtain ⟨k, hk, rfl, rfl, hm⟩ := hrel
    have HM := Lib.hid hm
    have b0 := hm.b0
    have b1 := hm.b1
    clear hm
    by_cases hlt : k < ts.length
    · obtain ⟨b, o, hab, hat⟩ := (HR.out.keep HM.out.B).at (by omega)
      have hat2 := hat k _ (List.getElem?_eq_getElem hlt)
      have hlv : k < F.vs.length := by rw [← HTS.out, List.length_map]; exact hlt
      have hvk : F.vs[k] = ts[k].vol := by simp [← HTS.out]
      have hmem : ts[k].vol ∈ F.vs := by rw [← HTS.out]; exact List.mem_map_of_mem (List.getElem_mem hlt)
      have HT := Lib.hid (sumV_take F.C F.vs k hlv)
      rw [hvk] at HT
      have HCL := Lib.hid (claim_mem HF.out hmem)
      obtain ⟨g1, g2⟩ := claimV_le HF.out hmem
      have HNL : Hid (ts[k].vol.nm.length ≤ maxLen) := Lib.hid (nameB_max (HF.out.vol _ hmem).name)
      obtain ⟨g3, g4⟩ := claims_le HF.out k
      have hk0 : (0 : Int) ≤ k := by omega
      have hk1 : (k : Int) < ts.length := by omega
      have e0 := hat2.c0
      have e9 : ts[k].nm = ts[k].vol.nm := rfl
      rw [e9] at e0
      clear hat hat2 hlv hvk hmem e9
      generalize claimV F.C ts[k].vol = cv at *
      generalize ts[k].vol.nm = nm at *
      generalize sumV F.C (F.vs.take k) = sm at *
      subst hab
      go_wp2_with fail
      refine wp_region_next (by kernel_rfl) (by kernel_rfl) ?_
      repeat (go_big_quiet_step ((go_at_call 42; exact Calls.next_of (qclaim_is F cv 0 _ nm _ HF.out (HM.out.fam.keep (World.below_next _ _)) HNL.out HCL.out))))
      refine wpQuiet_nil ?_
      intro _ hw'
      obtain ⟨nq, hw''⟩ := hw'
      subst hw''
      have HM2 := Lib.hid (HM.out.later (World.below_next wr nq))
      clear b0 b1 e0 HM
      go_wp2_with fail
      go_roundw
      case rel => exact ⟨k + 1, by omega, by go_num, by rw [HT.out], HM2.out⟩
      case measure => simp [intOf]; omega
    · obtain rfl : k = ts.length := by omega
      have e : sumV F.C (F.vs.take ts.length) = q := by rw [HLEN.out, List.take_length]; exact HQ.out
      rw [e]
      have hB := HM.out.B
      clear e
      go_wp2_with fail
      go_ret
      exact ⟨rfl, hB⟩
end Go.Proofs.YtpakjddfnhnndaaGreat

namespace Go.Proofs.YtpakjddfnhnndaaGreat
set_option linter.unusedSimpArgs false
set_option linter.unusedVariables false
set_option maxRecDepth 100000
open Go.RowKit Go.Maps

theorem counts_q {F : Fam} {gv : Value} {w : World} (hF : F.ok) (h : FamR w gv F) :
    Calls Tryz.prog 80 #[gv] w fun e w' => ∃ v, e = .returned v ∧ OwnI w' w.heap.size v F.C ∧ Below w.heap.size w w' := by
  obtain ⟨a, c, ts, rfl, hr, hl, hts, _⟩ := h
  exact rcounts_of F F.C rfl ts a c w hF hts hr hl
theorem used_q {F : Fam} {a : Option Addr} {c : Nat} {w : World} {u : Int} (hF : F.ok) (hr : RdI w a F.C) (hu : usedC F.C = u) :
    Calls Tryz.prog 124 #[.slice a F.N c] w fun e w' => e = .returned (.int .i64 u) ∧ Below w.heap.size w w' := by
  subst hu
  have := rused_any F.C a c w hr (inR_mono hF.range (by omega) (by omega))
  rwa [F.C_length] at this
set_option maxHeartbeats 4000000 in
theorem qfree_is37 (F : Fam) (q : Int) (gv : Value) (w : World) (hF : F.ok) (h : FamR w gv F) (hq : freeN F = q) :
    Calls Tryz.prog 94 #[gv] w fun e w' => e = .returned (.int .i64 q) ∧ Below w.heap.size w w' := by
  obtain ⟨a, m, c, rfl⟩ := h.form
  have HH := Lib.hid (QM.init w _ _ F h)
  have HF := Lib.hid hF
  obtain ⟨u, hu⟩ : ∃ u, usedC F.C = u := ⟨_, rfl⟩
  have HU := Lib.hid hu
  have HQ : Hid ((F.N : Int) - u = q) := Lib.hid (by rw [← hu, free_used hF]; exact hq)
  have hub : 0 ≤ u ∧ u ≤ F.N := by
    have h1 := used_bd (C := F.C) (inR_mono hF.range (by omega) (by omega))
    rw [F.C_length, hu] at h1
    exact h1
  have hN := hF.hN
  have HCL := Lib.hid F.C_length
  clear h hu hF hq
  obtain ⟨hu1, hu2⟩ := hub
  go_enter Tryz.func94, Tryz.ntmps94
  go_upto_region 1 with fail
  generalize w.alloc (.cells #[.int .i64 F.N, .slice a m c] 45) = W at *
  have HV := Lib.hid (HH.out.later (Below.refl _ _).drew)
  go_region_held3 (fun w' => w'.cell? ⟨w.heap.size, 0, none⟩ = some (.int .i64 F.N) ∧ w'.cell? ⟨w.heap.size, 1, none⟩ = some (.slice a m c) ∧ Below W.drew.heap.size W.drew w')
    (first
      | with_reducible exact ⟨HV.out.b0, HV.out.b1, Below.refl _ _⟩
      | with_reducible exact ⟨HQ2.out.b0, HQ2.out.b1, hW2⟩
      | with_reducible exact ⟨HQ1.out.b0, HQ1.out.b1, hW1⟩)
    (first
      | (go_at_call 80; have hW := (‹_ ∧ _ ∧ Below W.drew.heap.size W.drew _›).2.2; refine (counts_q HF.out (HV.out.later hW).fam).mono ?_; rintro e v1 ⟨sv, rfl, ho, hb1⟩; obtain ⟨ca, cc, rfl, hrc⟩ := ho.rd (by rw [HCL.out]; exact hN); have HRC := Lib.hid hrc; rw [HCL.out]; have hW1 := hW.on hb1; have HQ1 := Lib.hid (HV.out.later hW1))
      | (go_at_call 124; have hW := (‹_ ∧ _ ∧ Below W.drew.heap.size W.drew _›).2.2; refine (used_q HF.out HRC.out HU.out).mono ?_; rintro e v2 ⟨rfl, hb2⟩; have hW2 := hW.on hb2; have HQ2 := Lib.hid (HV.out.later hW2)))
  have hB := HQ2.out.B
  have hqq := HQ.out
  subst hqq
  have hw : IntKind.i64.wrap ((F.N : Int) - u) = F.N - u := IntWalk.i64_in _ (by omega)
  clear hW1 hW2 hb1 hb2 ho hrc HQ1 HQ2 HV
  go_wp2_with fail
  go_ret
  exact ⟨rfl, hB⟩
set_option maxHeartbeats 4000000 in
theorem qroom_is (F : Fam) (q : Int) (gv : Value) (w : World) (hF : F.ok) (h : FamR w gv F) (hq : roomF F = q) :
    Calls Tryz.prog 46 #[gv] w fun e w' => e = .returned (.int .i64 q) ∧ Below w.heap.size w w' := by
  obtain ⟨a, m, c, rfl⟩ := h.form
  have HH := Lib.hid (QM.init w _ _ F h)
  have HF := Lib.hid hF
  obtain ⟨fr, hfr⟩ : ∃ fr, freeN F = fr := ⟨_, rfl⟩
  obtain ⟨cl, hcl⟩ : ∃ cl, claimsF F = cl := ⟨_, rfl⟩
  have hq2 : fr - cl = q := by rw [← hq, ← hfr, ← hcl]; rfl
  have hfb : 0 ≤ fr ∧ fr ≤ 65536 := by
    have h1 := area_le (zeroB F.C) F.N
    have h2 := hF.hN
    rw [← hfr]
    unfold freeN
    omega
  have hcb : 0 ≤ cl ∧ cl ≤ 2097152 := by
    have h3 := claims_le hF F.vs.length
    rw [List.take_length] at h3
    have h4 : claimsF F = sumV F.C F.vs := rfl
    omega
  have HFR := Lib.hid hfr
  have HCL := Lib.hid hcl
  obtain ⟨f1, f2⟩ := hfb
  obtain ⟨g1, g2⟩ := hcb
  subst hq2
  clear h hF hq hfr hcl
  go_enter Tryz.func46, Tryz.ntmps46
  have b0 := HH.out.b0
  have b1 := HH.out.b1
  go_upto_region 1 with fail
  refine wp_region_next (by kernel_rfl) (by kernel_rfl) ?_
  repeat (go_big_quiet_step ((first | (go_at_call 94; exact Calls.next_of (qfree_is37 F fr _ _ HF.out (HH.out.fam.keep (World.below_next _ _)) HFR.out)) | (go_at_call 44; exact Calls.next_of (qclaims_is F cl _ _ HF.out (HH.out.fam.keep (World.below_next _ _)) HCL.out)))))
  refine wpQuiet_nil ?_
  intro _ hw'
  obtain ⟨nq, hw''⟩ := hw'
  subst hw''
  have hB := HH.out.B.on (World.below_next _ nq)
  have hw : IntKind.i64.wrap (fr - cl) = fr - cl := IntWalk.i64_in _ (by omega)
  clear b0 b1
  go_wp2_with fail
  go_ret
  exact ⟨rfl, hB⟩
end Go.Proofs.YtpakjddfnhnndaaGreat

namespace Go.Proofs.YtpakjddfnhnndaaGreat
set_option linter.unusedSimpArgs false
set_option linter.unusedVariables false
set_option maxRecDepth 100000
open Go.RowKit Go.Maps

set_option maxHeartbeats 4000000 in
theorem rexcl_is (C : List Int) (l : List E) (q : Int) (ca la : Option Addr) (cc lc : Nat) (w : World) (hrC : RdI w ca C) (hr : Rd w la l) (hp : permB C.length l = true) (hC : C.length ≤ 65536) (hl : l.length ≤ 65536) (hq : exclL C l = q) :
    Calls Tryz.prog 95 #[.slice ca C.length cc, .slice la l.length lc] w fun e w' => e = .returned (.int .i64 q) ∧ Below w.heap.size w w' := by
  have HRC := Lib.hid hrC
  have HR := Lib.hid hr
  have HK := Lib.hid hq
  have HPM := Lib.hid ((permB_iff _ _).1 hp)
  have HETK := Lib.hid (exclL_take C l)
  have HBD : Hid (∀ k, 0 ≤ exclL C (l.take k) ∧ exclL C (l.take k) ≤ 65536 * 65536) := Lib.hid fun k => by
    have h1 := exclL_bd C (l.take k) 65536 (fun y hy => by
      have h2 := (permB_iff _ _).1 hp y (List.mem_of_mem_take hy)
      omega)
    have h4 := List.length_take_le' k l
    omega
  clear hrC hr hq hp
  go_enter Tryz.func95, Tryz.ntmps95
  go_wp2_with fail
  go_loopw [5, 6] (fun v i wr => ∃ k : Nat, k ≤ l.length ∧ i = .int .i64 k ∧ v = .int .i64 (exclL C (l.take k)) ∧ Below w.heap.size w wr) (fun _ i _ => l.length - (intOf i).toNat)
  case atStart => exact ⟨0, Nat.zero_le _, rfl, by simp [exclL], Below.refl _ _⟩
  case round =>
    obtain ⟨k, hk, rfl, rfl, hB⟩ := hrel
    by_cases hlt : k < l.length
    · obtain ⟨eb, eo, rfl, hat⟩ := (HR.out.keep hB).at (by omega)
      have HAT := Lib.hid (hat k _ (List.getElem?_eq_getElem hlt))
      have HT := Lib.hid (HETK.out k hlt)
      obtain ⟨y1, y2, y3⟩ := HPM.out _ (List.getElem_mem hlt)
      obtain ⟨d1, d2⟩ := HBD.out k
      have hk0 : (0 : Int) ≤ k := by omega
      have hk1 : (k : Int) < l.length := by omega
      generalize l[k] = x at *
      obtain ⟨xa, xn, xs⟩ := x
      simp only at y1 y2 y3
      obtain ⟨s0, rfl⟩ := Int.eq_ofNat_of_zero_le y2
      obtain ⟨n0, rfl⟩ := Int.eq_ofNat_of_zero_le (show 0 ≤ xn by omega)
      have HOX : Hid (exclL C (l.take (k + 1)) = exclL C (l.take k) + area (fun j => oneB C (s0 + j)) n0) := Lib.hid (by rw [HT.out]; rfl)
      generalize exclL C (l.take k) = ex at *
      have hsn : s0 + n0 ≤ C.length := by omega
      have a2 : wr.cell? ⟨eb, eo + k * 3 + 2, none⟩ = some (.int .i64 s0) := HAT.out.s
      have HB := Lib.hid hB
      clear hat hB HT
      go_wp2_with fail
      clear a2
      generalize wr = wo at *
      go_loopw [5, 7] (fun v t wi => ∃ p : Nat, p ≤ n0 ∧ t = .int .i64 ((s0 : Int) + p) ∧ v = .int .i64 (ex + area (fun j => oneB C (s0 + j)) p) ∧ Below wo.heap.size wo wi) (fun _ t _ => (s0 + n0) - (intOf t).toNat)
      case atStart => exact ⟨0, Nat.zero_le _, by simp, by simp [area], Below.refl _ _⟩
      case round =>
        obtain ⟨p, hp, rfl, rfl, hBi⟩ := hrel
        have z1 : wr.cell? ⟨eb, eo + k * 3 + 1, none⟩ = some (.int .i64 n0) := hBi.keep HAT.out.n
        have z2 : wr.cell? ⟨eb, eo + k * 3 + 2, none⟩ = some (.int .i64 s0) := hBi.keep HAT.out.s
        have hw : IntKind.i64.wrap ((s0 : Int) + n0) = s0 + n0 := IntWalk.i64_in _ (by omega)
        have a1 := area_le (fun j => oneB C (s0 + j)) p
        have HBI := Lib.hid hBi
        clear hBi
        by_cases hpn : p < n0
        · have hlb : decide ((s0 : Int) + p < s0 + n0) = true := decide_eq_true (by omega)
          go_wp2_with fail
          refine wp_region_next (by kernel_rfl) (by kernel_rfl) ?_
          repeat (go_big_quiet_step (fail))
          refine wpQuiet_nil ?_
          intro _ hw'
          obtain ⟨nq, hw''⟩ := hw'
          subst hw''
          have HM := Lib.hid (HBI.out.on (World.below_next wr nq))
          have hsl : s0 + p < C.length := by omega
          obtain ⟨cb, co, rfl, hatc⟩ := (HRC.out.keep (HB.out.on HM.out)).at (by omega)
          have h1 := hatc (s0 + p) _ (getD_some C (s0 + p) hsl)
          have hs1 : (0 : Int) ≤ (s0 : Int) + p := by omega
          have hs2 : (s0 : Int) + p < C.length := by omega
          have HAR : Hid (area (fun j => oneB C (s0 + j)) (p + 1) = area (fun j => oneB C (s0 + j)) p + if oneB C (s0 + p) = true then 1 else 0) := Lib.hid rfl
          have hob : oneB C (s0 + p) = (C.getD (s0 + p) 0 == 1) := by unfold oneB; rw [Bool.eq_iff_iff]; simp
          rw [hob] at HAR
          generalize C.getD (s0 + p) 0 = cv at *
          generalize area (fun j => oneB C (s0 + j)) p = ar at *
          clear hob hatc z1 z2 hw hlb
          cases hcv : (cv == 1)
          · have HE : Hid (area (fun j => oneB C (s0 + j)) (p + 1) = ar) := Lib.hid (by rw [HAR.out, hcv]; simp)
            clear HAR
            go_wp2_with fail
            go_roundw
            case rel => exact ⟨p + 1, by omega, by go_num, by rw [HE.out], HM.out⟩
            case measure => simp [intOf]; omega
          · have HE : Hid (area (fun j => oneB C (s0 + j)) (p + 1) = ar + 1) := Lib.hid (by rw [HAR.out, hcv]; simp)
            clear HAR
            go_wp2_with fail
            go_roundw
            case rel => exact ⟨p + 1, by omega, by go_num, by rw [HE.out]; congr 1; omega, HM.out⟩
            case measure => simp [intOf]; omega
        · obtain rfl : p = n0 := by omega
          have hlb : decide ((s0 : Int) + p < s0 + p) = false := decide_eq_false (by omega)
          go_wp2_with fail
          refine wp_region_next (by kernel_rfl) (by kernel_rfl) ?_
          repeat (go_big_quiet_step (fail))
          refine wpQuiet_nil ?_
          intro _ hw'
          obtain ⟨nq, hw''⟩ := hw'
          subst hw''
          have HM := Lib.hid (HB.out.on (HBI.out.on (World.below_next wr nq)))
          clear z1 z2 hw hlb
          go_wp2_with fail
          go_roundw
          case rel => exact ⟨k + 1, by omega, by go_num, by rw [HOX.out], HM.out⟩
          case measure => simp [intOf]; omega
    · obtain rfl : k = l.length := by omega
      rw [List.take_length]
      rw [HK.out]
      go_wp2_with fail
      go_ret
      exact ⟨rfl, hB⟩
theorem rrange_own (F : Fam) (L : List E) (e0 : Int) (gv : Value) (nm : List UInt8) (p n : Int) (w : World) (hF : F.ok) (h : FamR w gv F) (hnm : nm.length ≤ maxLen) (he : rangeF F nm p n = (L, e0)) :
    Calls Tryz.prog 38 #[gv, nmV nm, .int .i64 p, .int .i64 n] w fun e w' => ∃ sv, e = .returned (.tuple #[sv, .int .i64 e0]) ∧ OwnE w' w.heap.size sv L ∧ Below w.heap.size w w' := by
  have := rrange_is F gv nm p n w hF h hnm
  rwa [he] at this
set_option maxHeartbeats 4000000 in
theorem qneed_is (F : Fam) (k e0 : Int) (gv : Value) (nm : List UInt8) (p n : Int) (w : World) (hF : F.ok) (hs : ∀ v ∈ F.vs, v.l.length ≤ 9000) (h : FamR w gv F) (hnm : nm.length ≤ maxLen) (hq : needF F nm p n = (k, e0)) :
    Calls Tryz.prog 48 #[gv, nmV nm, .int .i64 p, .int .i64 n] w fun e w' => e = .returned (.tuple #[.int .i64 k, .int .i64 e0]) ∧ Below w.heap.size w w' := by
  obtain ⟨a, m, c, rfl⟩ := h.form
  have HH := Lib.hid (QM.init w _ _ F h)
  have HF := Lib.hid hF
  clear h
  rcases need_cases hF hs nm p n with ⟨e1, he, hr, hc⟩ | ⟨L, hr, hc, hn1, hn2, hpm, hlen⟩
  · rw [hc] at hq
    obtain ⟨rfl, rfl⟩ := Prod.mk.inj hq
    have HR := Lib.hid hr
    clear hc hq hr hF hs
    go_enter Tryz.func48, Tryz.ntmps48
    have b0 := HH.out.b0
    have b1 := HH.out.b1
    go_wp2_with fail
    refine (rrange_own F [] e1 _ nm p n _ HF.out HH.out.fam hnm HR.out).mono ?_
    rintro e w1 ⟨sv, rfl, ho, hb⟩
    obtain ⟨sa, sc, rfl, _⟩ := ho.rd (by simp)
    have HB := Lib.hid (HH.out.B.on hb)
    have hz : (e1 == 0) = false := by simpa using he
    clear hb ho b0 b1 HH he
    go_wp2_with fail
    go_ret2
    exact ⟨rfl, HB.out⟩
  · rw [hc] at hq
    obtain ⟨hk, rfl⟩ := Prod.mk.inj hq
    obtain ⟨ex, hex⟩ : ∃ ex, exclL F.C L = ex := ⟨_, rfl⟩
    have hxb : 0 ≤ ex ∧ ex ≤ 65536 * 65536 := by
      have h1 := exclL_bd F.C L 65536 (fun y hy => by
        have h2 := (permB_iff _ _).1 hpm y hy
        have h3 := hF.hN
        omega)
      rw [← hex]
      omega
    obtain ⟨x1, x2⟩ := hxb
    rw [hex] at hk
    subst hk
    have HEX := Lib.hid hex
    have HR := Lib.hid hr
    have HPM := Lib.hid hpm
    have HC9 := Lib.hid F.C_length
    have HN9 := Lib.hid hF.hN
    clear hc hq hr hpm hF hs hex
    go_enter Tryz.func48, Tryz.ntmps48
    have b0 := HH.out.b0
    have b1 := HH.out.b1
    go_wp2_with fail
    refine (rrange_own F L 0 _ nm p n _ HF.out HH.out.fam hnm HR.out).mono ?_
    rintro e w1 ⟨sv, rfl, ho, hb⟩
    obtain ⟨sa, sc, rfl, hl⟩ := ho.rd (by omega)
    have HL := Lib.hid hl
    have HH1 := Lib.hid (HH.out.later hb)
    clear hb ho hl b0 b1 HH
    have b0 := HH1.out.b0
    have b1 := HH1.out.b1
    go_wp2_with fail
    refine (counts_q HF.out HH1.out.fam).mono ?_
    rintro e w2 ⟨cv, rfl, ho, hb⟩
    obtain ⟨ca, cc, rfl, hrc⟩ := ho.rd (by rw [HC9.out]; exact HN9.out)
    have HRC := Lib.hid hrc
    have HH2 := Lib.hid (HH1.out.later hb)
    have HL2 := Lib.hid (HL.out.keep hb)
    clear hb ho hrc b0 b1 HH1 HL
    go_wp2_with fail
    refine (rexcl_is F.C L ex ca sa cc sc _ HRC.out HL2.out (by rw [HC9.out]; exact HPM.out) (by rw [HC9.out]; exact HN9.out) hlen HEX.out).mono ?_
    rintro e w3 ⟨rfl, hb⟩
    have hB := HH2.out.B.on hb
    clear hb
    go_wp2_with fail
    go_ret2
    exact ⟨rfl, hB⟩
end Go.Proofs.YtpakjddfnhnndaaGreat

namespace Go.Proofs.YtpakjddfnhnndaaGreat
set_option linter.unusedSimpArgs false
set_option linter.unusedVariables false
set_option maxRecDepth 100000
open Go.RowKit Go.Maps

theorem enough_cases (a b : Int) : (a > b ∧ enoughN a b = 11) ∨ (a ≤ b ∧ enoughN a b = 0) := by
  unfold enoughN
  by_cases h : a > b
  · exact .inl ⟨h, if_pos h⟩
  · exact .inr ⟨by omega, if_neg h⟩
set_option maxHeartbeats 4000000 in
theorem qcreate_is (F : Fam) (q : Int) (gv : Value) (n r : Int) (w : World) (hF : F.ok) (h : FamR w gv F) (hq : canCreateF F n r = q) :
    Calls Tryz.prog 54 #[gv, .int .i64 n, .int .i64 r] w fun e w' => e = .returned (.int .i64 q) ∧ Below w.heap.size w w' := by
  obtain ⟨a, m, c, rfl⟩ := h.form
  have HH := Lib.hid (QM.init w _ _ F h)
  have HF := Lib.hid hF
  clear hF h
  rcases numB_cases n r with ⟨hn, hn2⟩ | ⟨hn, hn2⟩
  · obtain ⟨rm, hrm⟩ : ∃ rm, roomF F = rm := ⟨_, rfl⟩
    have hq2 : enoughN r rm = q := by rw [← hq, ← hrm]; unfold canCreateF; rw [hn, if_neg (by simp)]
    have HRM := Lib.hid hrm
    clear hn hq hrm
    rcases enough_cases r rm with ⟨hc, he⟩ | ⟨hc, he⟩
    all_goals
      have hq3 := he.symm.trans hq2
      subst hq3
      clear he hq2
      go_enter Tryz.func54, Tryz.ntmps54
      have b0 := HH.out.b0
      have b1 := HH.out.b1
      go_wp2_with fail
      refine (qroom_is F rm _ _ HF.out HH.out.fam HRM.out).mono ?_
      rintro e w1 ⟨rfl, hb⟩
      have hB := HH.out.B.on hb
      clear hb b0 b1
      go_wp2_with fail
      go_ret
      exact ⟨rfl, hB⟩
  · have hq2 : (1 : Int) = q := by rw [← hq]; unfold canCreateF; rw [hn, if_pos rfl]
    subst hq2
    have hB := HH.out.B
    clear hn hq HH
    rcases hn2 with h1 | ⟨h1, h2 | ⟨h2, h3 | ⟨h3, h4⟩⟩⟩
    all_goals
      go_enter Tryz.func54, Tryz.ntmps54
      go_wp2_with fail
      go_ret
      exact ⟨rfl, hB⟩
theorem canclone_cases2 {F : Fam} (hF : F.ok) (nm : List UInt8) : (infoF F nm = (⟨[], 0, 0, 0, 0⟩, 9) ∧ canCloneF F nm = 9) ∨ ∃ im i1 i2 i3 i4 mx, infoF F nm = (⟨im, i1, i2, i3, i4⟩, 0) ∧ claimF F nm = (mx, 0) ∧ canCloneF F nm = enoughN (i2 - mx) (roomF F) ∧ 0 ≤ i2 ∧ i2 ≤ 65536 ∧ 0 ≤ mx ∧ mx ≤ 65536 := by
  cases hg : getV F.vs nm with
  | none => exact .inl ⟨(claim_none hg).1, by unfold canCloneF; rw [hg]⟩
  | some v =>
    have hm := (getV_mem hg).1
    have hv := hF.vol v hm
    have h1 := claimV_le hF hm
    have h2 := hv.r1
    have h4 := hv.r0
    have h5 := hv.n2
    exact .inr ⟨v.nm, v.n, v.r, _, _, claimV F.C v, (claim_some hg).1, (claim_some hg).2, by unfold canCloneF; rw [hg], h4, by omega, h1.1, h1.2⟩
set_option maxHeartbeats 4000000 in
theorem qclone_is (F : Fam) (q : Int) (gv : Value) (nm : List UInt8) (w : World) (hF : F.ok) (h : FamR w gv F) (hnm : nm.length ≤ maxLen) (hq : canCloneF F nm = q) :
    Calls Tryz.prog 52 #[gv, nmV nm] w fun e w' => e = .returned (.int .i64 q) ∧ Below w.heap.size w w' := by
  obtain ⟨a, m, c, rfl⟩ := h.form
  have HH := Lib.hid (QM.init w _ _ F h)
  have HF := Lib.hid hF
  clear h
  rcases canclone_cases2 hF nm with ⟨hi, hc⟩ | ⟨im, i1, i2, i3, i4, mx, hi, hcl, hc, g1, g2, g3, g4⟩
  · have hq2 : (9 : Int) = q := by rw [← hq, hc]
    subst hq2
    have HI := Lib.hid hi
    clear hi hc hq hF
    go_enter Tryz.func52, Tryz.ntmps52
    have b0 := HH.out.b0
    have b1 := HH.out.b1
    go_wp2_with fail
    refine (rinfo_r F [] 0 0 0 0 9 _ nm _ HF.out HH.out.fam hnm HI.out).mono ?_
    rintro e w1 ⟨rfl, hb⟩
    have hB := (HH.out.B.on hb).onAlloc (.cells #[nmV [], .int .i64 0, .int .i64 0, .int .i64 0, .int .i64 0] 34)
    clear hb b0 b1 HH
    go_wp2_with fail
    go_ret
    exact ⟨rfl, hB⟩
  · obtain ⟨rm, hrm⟩ : ∃ rm, roomF F = rm := ⟨_, rfl⟩
    have hrb := room_bd hF
    rw [hc, hrm] at hq
    rw [hrm] at hrb
    obtain ⟨r1, r2⟩ := hrb
    have HRM := Lib.hid hrm
    have HI := Lib.hid hi
    have HCL := Lib.hid hcl
    clear hi hcl hc hrm hF
    have key : (rm - (i2 - mx) < 0 ∧ q = 11) ∨ (0 ≤ rm - (i2 - mx) ∧ q = 0) := by
      rcases enough_cases (i2 - mx) rm with ⟨h1, h2⟩ | ⟨h1, h2⟩
      · exact .inl ⟨by omega, by rw [← hq, h2]⟩
      · exact .inr ⟨by omega, by rw [← hq, h2]⟩
    clear hq
    rcases key with ⟨hk, rfl⟩ | ⟨hk, rfl⟩
    all_goals
      go_enter Tryz.func52, Tryz.ntmps52
      have b0 := HH.out.b0
      have b1 := HH.out.b1
      go_wp2_with fail
      refine (rinfo_r F im i1 i2 i3 i4 0 _ nm _ HF.out HH.out.fam hnm HI.out).mono ?_
      rintro e w1 ⟨rfl, hb⟩
      have hk9 := hb.onAlloc (.cells #[nmV im, .int .i64 i1, .int .i64 i2, .int .i64 i3, .int .i64 i4] 34)
      have HH := Lib.hid (HH.out.later hk9)
      have HT := Lib.hid (IT.new w1 _ rfl ⟨im, i1, i2, i3, i4⟩ 34)
      clear hb hk9 b0 b1
      have b0 := HH.out.b0
      have b1 := HH.out.b1
      go_wp2_with fail
      refine (qclaim_is F mx 0 _ nm _ HF.out HH.out.fam hnm HCL.out).mono ?_
      rintro e w2 ⟨rfl, hb⟩
      have HH := Lib.hid (HH.out.later hb)
      have HT := Lib.hid (HT.out.later hb)
      clear hb b0 b1
      go_upto_region 5 with fail
      generalize w1.heap.size = T at *
      have b0 := HH.out.b0
      have b1 := HH.out.b1
      have t2 := HT.out.t2
      have hw1 : IntKind.i64.wrap (i2 - mx) = i2 - mx := IntWalk.i64_in _ (by omega)
      have hw2 : IntKind.i64.wrap (rm - (i2 - mx)) = rm - (i2 - mx) := IntWalk.i64_in _ (by omega)
      first
        | have hd : decide (rm - (i2 - mx) < 0) = true := decide_eq_true (by omega)
        | have hd : decide (rm - (i2 - mx) < 0) = false := decide_eq_false (by omega)
      refine wp_region_next (by kernel_rfl) (by kernel_rfl) ?_
      repeat (go_big_quiet_step ((go_at_call 46; exact Calls.next_of (qroom_is F rm _ _ HF.out (HH.out.fam.keep (World.below_next _ _)) HRM.out))))
      refine wpQuiet_nil ?_
      intro _ hw'
      obtain ⟨nq, hw''⟩ := hw'
      subst hw''
      have hB := HH.out.B.on (World.below_next w2 nq)
      clear b0 b1 t2 hw1 hw2
      go_wp2_with fail
      go_ret
      exact ⟨rfl, hB⟩
set_option maxHeartbeats 4000000 in
theorem qwrite_is (F : Fam) (q : Int) (gv : Value) (nm : List UInt8) (p n : Int) (w : World) (hF : F.ok) (hs : ∀ v ∈ F.vs, v.l.length ≤ 9000) (h : FamR w gv F) (hnm : nm.length ≤ maxLen) (hq : canWriteF F nm p n = q) :
    Calls Tryz.prog 50 #[gv, nmV nm, .int .i64 p, .int .i64 n] w fun e w' => e = .returned (.int .i64 q) ∧ Below w.heap.size w w' := by
  obtain ⟨a, m, c, rfl⟩ := h.form
  have HH := Lib.hid (QM.init w _ _ F h)
  have HF := Lib.hid hF
  have HS := Lib.hid hs
  have HCB := Lib.hid (claimF_bd hF nm)
  have HRB := Lib.hid (room_bd hF)
  unfold canWriteF at hq
  obtain ⟨nd, hnd⟩ : ∃ nd, needF F nm p n = nd := ⟨_, rfl⟩
  obtain ⟨nk, e0⟩ := nd
  rw [hnd] at hq
  simp only at hq
  have HN := Lib.hid hnd
  clear h hnd hF hs
  by_cases he : e0 = 0
  · subst he
    rw [if_pos rfl] at hq
    obtain ⟨ck, hck⟩ : ∃ ck, claimF F nm = ck := ⟨_, rfl⟩
    obtain ⟨cv, ce⟩ := ck
    rw [hck] at hq HCB
    obtain ⟨rm, hrm⟩ : ∃ rm, roomF F = rm := ⟨_, rfl⟩
    rw [hrm] at hq HRB
    have HC := Lib.hid hck
    have HR := Lib.hid hrm
    obtain ⟨c1, c2⟩ := HCB.out
    obtain ⟨r1, r2⟩ := HRB.out
    simp only at c1 c2
    clear hck hrm
    have key : (nk > cv + max 0 rm ∧ q = 11) ∨ (nk ≤ cv + max 0 rm ∧ q = 0) := by
      rcases enough_cases nk (cv + max 0 rm) with ⟨h1, h2⟩ | ⟨h1, h2⟩
      · exact .inl ⟨h1, by rw [← hq, h2]⟩
      · exact .inr ⟨h1, by rw [← hq, h2]⟩
    clear hq
    rcases key with ⟨hk, rfl⟩ | ⟨hk, rfl⟩
    all_goals
      go_enter Tryz.func50, Tryz.ntmps50
      have b0 := HH.out.b0
      have b1 := HH.out.b1
      go_wp2_with fail
      refine (qneed_is F nk 0 _ nm p n _ HF.out HS.out HH.out.fam hnm HN.out).mono ?_
      rintro e w1 ⟨rfl, hb⟩
      have HH := Lib.hid (HH.out.later hb)
      clear hb b0 b1
      have b0 := HH.out.b0
      have b1 := HH.out.b1
      go_wp2_with fail
      refine (qclaim_is F cv ce _ nm _ HF.out HH.out.fam hnm HC.out).mono ?_
      rintro e w2 ⟨rfl, hb⟩
      have HH := Lib.hid (HH.out.later hb)
      clear hb b0 b1
      have b0 := HH.out.b0
      have b1 := HH.out.b1
      go_wp2_with fail
      refine (qroom_is F rm _ _ HF.out HH.out.fam HR.out).mono ?_
      rintro e w3 ⟨rfl, hb⟩
      have hB := HH.out.B.on hb
      clear hb b0 b1
      go_wp2_with fail
      go_ret
      exact ⟨rfl, hB⟩
  · rw [if_neg he] at hq
    subst hq
    have hz : (e0 == 0) = false := by simpa using he
    clear he
    go_enter Tryz.func50, Tryz.ntmps50
    have b0 := HH.out.b0
    have b1 := HH.out.b1
    go_wp2_with fail
    refine (qneed_is F nk e0 _ nm p n _ HF.out HS.out HH.out.fam hnm HN.out).mono ?_
    rintro e w1 ⟨rfl, hb⟩
    have hB := HH.out.B.on hb
    clear hb b0 b1 HH
    go_wp2_with fail
    go_ret
    exact ⟨rfl, hB⟩
/-! ### Lowest, for one slot -/
theorem newI (W : World) (n : Nat) (hn : n = W.heap.size) (x : Int) (t : TypeId) : ∀ j u, ([Value.int .i64 x] : List Value)[j]? = some u → (W.alloc (.cells #[.int .i64 x] t)).cell? ((⟨n, 0, none⟩ : Addr).add j) = some u := by
  subst hn
  intro j u hj
  cases j with
  | zero => simp at hj; subst hj; simp [Addr.add]
  | succ j => simp at hj
def LowI (C : List Int) (w : World) (v i : Value) (wr : World) : Prop :=
  Below w.heap.size w wr ∧ ∃ k : Nat, k ≤ C.length ∧ i = .int .i64 k ∧ ((v = .slice none 0 0 ∧ ∀ j, j < k → zeroB C j = false) ∨ ∃ s g c : Nat, s < C.length ∧ zeroB C s = true ∧ v = .slice (some ⟨g, 0, none⟩) 1 c ∧ wr.cell? ⟨g, 0, none⟩ = some (.int .i64 s))
def LowPost (F : Fam) (w : World) (e : Ending) (w' : World) : Prop :=
  Below w.heap.size w w' ∧ ((e = .returned (.slice none 0 0) ∧ freeN F = 0) ∨ ∃ s g c : Nat, s < F.N ∧ F.C.getD s 0 = 0 ∧ e = .returned (.slice (some ⟨g, 0, none⟩) 1 c) ∧ w'.cell? ⟨g, 0, none⟩ = some (.int .i64 s))
set_option maxHeartbeats 4000000 in
theorem qlowest_is (F : Fam) (gv : Value) (w : World) (hF : F.ok) (h : FamR w gv F) :
    Calls Tryz.prog 99 #[gv, .int .i64 1] w (LowPost F w) := by
  obtain ⟨a, m, c, rfl⟩ := h.form
  have HH := Lib.hid (QM.init w _ _ F h)
  have HF := Lib.hid hF
  have HCL := Lib.hid F.C_length
  have hN := hF.hN
  have HFR : Hid ((∀ j, j < F.C.length → zeroB F.C j = false) → freeN F = 0) := Lib.hid fun h => by
    unfold freeN
    rw [area_false _ _ fun j hj => h j (by rw [F.C_length]; exact hj)]
    rfl
  have hC9 : F.C.length ≤ 65536 := by rw [F.C_length]; exact hN
  clear hF h
  obtain ⟨i0, hi, hz0, hz1, hz2⟩ := info_parts infoI
  go_enter Tryz.func99, Tryz.ntmps99
  have b0 := HH.out.b0
  have b1 := HH.out.b1
  go_wp2_with fail
  refine (counts_q HF.out HH.out.fam).mono ?_
  rintro e w1 ⟨cv, rfl, ho, hb⟩
  obtain ⟨ca, cc, rfl, hrc⟩ := ho.rd hC9
  have HRC := Lib.hid hrc
  have HB := Lib.hid (HH.out.B.on hb)
  have HQ : Hid (∀ e w', (Below w.heap.size w w' ∧ ((e = .returned (.slice none 0 0) ∧ ∀ j, j < F.C.length → zeroB F.C j = false) ∨ ∃ s g c : Nat, s < F.C.length ∧ zeroB F.C s = true ∧ e = .returned (.slice (some ⟨g, 0, none⟩) 1 c) ∧ w'.cell? ⟨g, 0, none⟩ = some (.int .i64 s))) → LowPost F w e w') := Lib.hid fun e w' ⟨h1, h2⟩ => ⟨h1, h2.imp (fun ⟨q1, q2⟩ => ⟨q1, HFR.out q2⟩) fun ⟨s, g, c, q1, q2, q3⟩ => ⟨s, g, c, by rw [F.C_length] at q1; exact q1, by simpa [zeroB] using q2, q3⟩⟩
  clear hb ho hrc b0 b1 HH HFR HF HCL
  generalize F.C = C at *
  go_wp2_with fail
  go_loopw [6, 7] (fun v i wr => LowI C w1 v i wr) (fun _ i _ => C.length - (intOf i).toNat)
  case atStart => exact ⟨Below.refl _ _, 0, Nat.zero_le _, rfl, .inl ⟨rfl, fun j hj => by omega⟩⟩
  case round =>
    obtain ⟨hB, k, hk, rfl, ⟨rfl, hz⟩ | ⟨s, g, c2, hs, hzs, rfl, hcell⟩⟩ := hrel
    · have HZ := Lib.hid hz
      clear hz
      by_cases hlt : k < C.length
      · obtain ⟨cb, co, rfl, hatc⟩ := (HRC.out.keep hB).at (by omega)
        have h1 := hatc k _ (getD_some C k hlt)
        have hk0 : (0 : Int) ≤ k := by omega
        have hk1 : (k : Int) < C.length := by omega
        have hzb : zeroB C k = (C.getD k 0 == 0) := by unfold zeroB; rw [Bool.eq_iff_iff]; simp
        generalize C.getD k 0 = cv at *
        have HBK := Lib.hid hB
        clear hatc hB
        cases hcv : (cv == 0)
        · rw [hcv] at hzb
          have HZB := Lib.hid hzb
          clear hzb
          go_wp2_with fail
          go_roundw
          case rel => exact ⟨HBK.out, k + 1, by omega, by go_num, .inl ⟨rfl, fun j hj => by
            by_cases e : j = k
            · subst e; exact HZB.out
            · exact HZ.out j (by omega)⟩⟩
          case measure => simp [intOf]; omega
        · rw [hcv] at hzb
          have HZB := Lib.hid hzb
          clear hzb
          go_wp2_with (at_builtin; refine wpList_append_x _ rfl _ _ 23 rfl wr.heap.size 3 i0 (.int .i64 0) 1 8 Tryz.underlying23 hi hz0 hz1 hz2 rfl (by decide) _ _ _ rfl (OwnI.nil _ _) ⟨wr.heap.size, 0, none⟩ 1 1 [.int .i64 k] rfl rfl (newI _ _ rfl _ _) (by intro u hu; simp at hu; subst hu; rfl) (by simp) (by simp [maxLen]) (by simp only [World.size_alloc]; omega) ?_; intro v1 w2 hown1 hgrow1 hwhere1)
          have ho := OwnI.append (C := []) (D := [(k : Int)]) hown1 rfl
          have HBE := Lib.hid ((HBK.out.onAlloc (.cells #[.int .i64 k] 3)).onGrow hgrow1 fun j hj => by cases hj)
          rcases ho.form with ⟨_, hno⟩ | ⟨g, c1, rfl, _, _, _, _, hat, _⟩
          · simp at hno
          have HAT := Lib.hid (hat 0 _ rfl)
          clear hown1 hgrow1 hwhere1 ho hat h1
          go_wp2_with fail
          go_roundw
          case rel => exact ⟨HBE.out, k + 1, by omega, by go_num, .inr ⟨k, g, c1, hlt, HZB.out, rfl, HAT.out⟩⟩
          case measure => simp [intOf]; omega
      · obtain rfl : k = C.length := by omega
        have HR := Lib.hid (HB.out.on hB)
        clear hB
        go_wp2_with fail
        go_ret
        exact HQ.out _ _ ⟨HR.out, .inl ⟨rfl, HZ.out⟩⟩
    · have HR := Lib.hid (HB.out.on hB)
      have HCE := Lib.hid hcell
      have HZS := Lib.hid hzs
      clear hB hcell hzs
      have hend : ∀ e w', (Below w.heap.size w w' ∧ ((e = .returned (.slice none 0 0) ∧ ∀ j, j < C.length → zeroB C j = false) ∨ ∃ s g c : Nat, s < C.length ∧ zeroB C s = true ∧ e = .returned (.slice (some ⟨g, 0, none⟩) 1 c) ∧ w'.cell? ⟨g, 0, none⟩ = some (.int .i64 s))) → LowPost F w e w' := HQ.out
      clear hend
      by_cases hlt : k < C.length
      all_goals
        have hd : ((k : Int) < C.length) ∨ ¬ ((k : Int) < C.length) := by omega
        clear hd
        go_wp2_with fail
        go_ret
        exact HQ.out _ _ ⟨HR.out, .inr ⟨s, g, c2, hs, HZS.out, rfl, HCE.out⟩⟩
end Go.Proofs.YtpakjddfnhnndaaGreat
