/-
  Boxes of two cells that hold a family; what a store to one leaves alone.
  Conditions: as each theorem says.
-/
import Derived.Test.YtpakjddfnhnndaaGreatGR
import Derived.Test.YtpakjddfnhnndaaGreatFbG
import Derived.Test.YtpakjddfnhnndaaGreatGH
namespace Go.Proofs.YtpakjddfnhnndaaGreat
set_option linter.unusedSimpArgs false
set_option linter.unusedVariables false
set_option maxRecDepth 100000
open Go.RowKit Go.Maps

/-- Block T holds two cells and no others. -/
structure Bx (W : World) (T : Nat) (t : TypeId) (u v : Value) : Prop where
  c0 : W.cell? ⟨T, 0, none⟩ = some u
  c1 : W.cell? ⟨T, 1, none⟩ = some v
  f0 : W.frozen? ⟨T, 0, none⟩ = false
  f1 : W.frozen? ⟨T, 1, none⟩ = false
  c2 : ∀ i, 2 ≤ i → W.cell? ⟨T, i, none⟩ = none
  ty : HasTy W T t
section
variable {W W' : World} {T R : Nat} {t : TypeId} {u v x y : Value}
theorem Bx.lt (h : Bx W T t u v) : T < W.heap.size := World.block_lt_of_cell? W ⟨T, 0, none⟩ h.c0
theorem Bx.later (h : Bx W T t u v) (hb : Below W.heap.size W W') : Bx W' T t u v :=
  ⟨hb.keep h.c0, hb.keep h.c1, hb.keepF h.c0 h.f0, hb.keepF h.c1 h.f1, fun i hi => (hb.cell (p := ⟨T, i, none⟩) h.lt).trans (h.c2 i hi), h.ty.keep hb⟩
theorem Bx.new (V : World) (B : Nat) (hB : V.heap.size = B) (x y : Value) (t : TypeId) : Bx (V.alloc (.cells #[x, y] t)) B t x y := by
  subst hB
  refine ⟨by simp, by simp, by simp, by simp, fun i hi => ?_, _, _, Array.getElem?_push_size⟩
  rw [World.cell?_alloc_new]
  simp
  omega
theorem Bx.put (h : Bx W T t u v) (x y : Value) : Bx (fam2 W T x y) T t x y := by
  refine ⟨?_, ?_, by rw [World.frozen?_setCell, World.frozen?_setCell]; exact h.f0, by rw [World.frozen?_setCell, World.frozen?_setCell]; exact h.f1, fun i hi => ?_, (h.ty.set _ _).set _ _⟩
  · rw [World.cell?_setCell_other _ _ _ _ (by simp)]
    exact World.cell?_setCell_same _ _ _ h.c0
  · refine World.cell?_setCell_same (u := v) _ _ _ ?_
    rw [World.cell?_setCell_other _ _ _ _ (by simp)]
    exact h.c1
  · exact cell_none (by omega) (cell_none (by omega) (h.c2 i hi))
theorem Bx.far (h : Bx W T t u v) (hne : T ≠ R) (x y : Value) : Bx (fam2 W R x y) T t u v := by
  refine ⟨(fam2_far hne).trans h.c0, (fam2_far hne).trans h.c1, by rw [World.frozen?_setCell, World.frozen?_setCell]; exact h.f0, by rw [World.frozen?_setCell, World.frozen?_setCell]; exact h.f1, fun i hi => (fam2_far hne).trans (h.c2 i hi), (h.ty.set _ _).set _ _⟩
theorem Bx.famV (h : Bx W T t u v) (ht : 3 ≠ t) {fv : Value} {F : Fam} (hf : FamV W fv F) : FamV (fam2 W T x y) fv F := by
  obtain ⟨a, c, mb, h1, h2, ts, h3, h4, h5⟩ := hf
  refine ⟨a, c, mb, h1, ⟨h2.1, h2.2.imp id fun ⟨b, o, ha, hy, hc⟩ => ⟨b, o, ha, (hy.set _ _).set _ _, fun k z hk => (fam2_far (hy.ne h.ty ht)).trans (hc k z hk)⟩⟩, ts, h3, fun p hp => IsTr.away (cell_none (by decide) (h.c2 7 (by omega))) p.t (IsTr.away (h.c2 7 (by omega)) p.t (h4 p hp)), h5.elim .inl fun ⟨b, q1, q2⟩ => .inr ⟨b, q1, ?_⟩⟩
  obtain ⟨es, clock, hb, r⟩ := q2
  have hne : b ≠ T := fun e => by
    subst e
    have := h.c0
    simp [World.cell?, hb] at this
  exact ⟨es, clock, (fam2_heap hne).trans hb, r⟩
theorem Bx.rd (h : Bx W T t u v) {a : Option Addr} {l : List E} (hr : Rd W a l) : Rd (fam2 W T x y) a l := by
  refine ⟨hr.1, hr.2.imp id fun ⟨b, o, ha, hat⟩ => ⟨b, o, ha, fun k z hk => ?_⟩⟩
  have q := hat k z hk
  have hne : b ≠ T := fun e => by
    subst e
    have h1 := q.s
    rw [h.c2 _ (by omega)] at h1
    cases h1
  exact ⟨(fam2_far hne).trans q.a, (fam2_far hne).trans q.n, (fam2_far hne).trans q.s⟩
theorem Bx.rows (h : Bx W T t u v) {a : Option Addr} {ts : List RT} (hr : RdR W a ts) : RdR (fam2 W T x y) a ts := by
  refine ⟨hr.1, hr.2.imp id fun ⟨b, o, ha, hat⟩ => ⟨b, o, ha, fun k z hk => ?_⟩⟩
  have q := hat k z hk
  have hne : b ≠ T := fun e => by
    subst e
    have h1 := q.c3
    rw [h.c2 _ (by omega)] at h1
    cases h1
  exact ⟨(fam2_far hne).trans q.c0, (fam2_far hne).trans q.c1, (fam2_far hne).trans q.c2, (fam2_far hne).trans q.c3⟩
theorem Bx.famR (h : Bx W T t u v) {gv : Value} {F : Fam} (hf : FamR W gv F) : FamR (fam2 W T x y) gv F := by
  obtain ⟨a, c, ts, h1, h2, h3, h4⟩ := hf
  exact ⟨a, c, ts, h1, h.rows h2, fun z hz => h.rd (h3 z hz), h4⟩
end
theorem RG.bx {w W : World} {R : Nat} (h : RG w W R) {u v : Value} {gv : Value} {F : Fam} (hf : FamR W gv F) : FamR (fam2 W R u v) gv F := by
  obtain ⟨a, c, ts, h1, h2, h3, h4⟩ := hf
  have k : ∀ (b i : Nat) (z : Value), 2 ≤ i → W.cell? ⟨b, i, none⟩ = some z → b ≠ R := fun b i z hi hc e => by
    subst e
    rw [h.r2 _ hi] at hc
    cases hc
  refine ⟨a, c, ts, h1, ⟨h2.1, h2.2.imp id fun ⟨b, o, ha, hat⟩ => ⟨b, o, ha, fun j z hj => ?_⟩⟩, fun z hz => ⟨(h3 z hz).1, (h3 z hz).2.imp id fun ⟨b, o, ha, hat⟩ => ⟨b, o, ha, fun j e hj => ?_⟩⟩, h4⟩
  · have q := hat j z hj
    have hne := k b _ _ (by omega) q.c3
    exact ⟨(fam2_far hne).trans q.c0, (fam2_far hne).trans q.c1, (fam2_far hne).trans q.c2, (fam2_far hne).trans q.c3⟩
  · have q := hat j e hj
    have hne := k b _ _ (by omega) q.s
    exact ⟨(fam2_far hne).trans q.a, (fam2_far hne).trans q.n, (fam2_far hne).trans q.s⟩
/-- What a family of the reference needs. -/
theorem okB_wf {x : E} (h : okB x = true) : x.wf := by
  obtain ⟨c1, c2, c3, c4, c5⟩ := (okB_iff x).1 h
  unfold E.wf
  omega
theorem fit_of {F : Fam} (hF : F.ok) {ts : List RT} (h : ts.map RT.vol = F.vs) : FitR F.N ts := by
  have hm : ∀ x ∈ ts, x.vol ∈ F.vs := fun x hx => by rw [← h]; exact List.mem_map_of_mem hx
  have hl := congrArg List.length h
  rw [List.length_map] at hl
  exact ⟨hF.hN, by have := hF.few; omega, fun x hx => (hF.vol _ (hm x hx)).perm, fun x hx y hy => okB_wf (validB_ok (hF.vol _ (hm x hx)).valid y hy), fun x hx => (hF.vol _ (hm x hx)).short.1⟩
theorem ts_sorted {F : Fam} (hF : F.ok) {ts : List RT} (h : ts.map RT.vol = F.vs) : sortedR ts := by
  have := hF.sorted
  rw [← h] at this
  exact List.pairwise_map.1 this
theorem fit_len {F : Fam} (hF : F.ok) {ts : List RT} (h : ts.map RT.vol = F.vs) : ts.length = F.vs.length ∧ ts.length ≤ 32 := by
  have hl := congrArg List.length h
  rw [List.length_map] at hl
  exact ⟨hl, by have := hF.few; omega⟩
theorem counts_of {F : Fam} {ts : List RT} (h : ts.map RT.vol = F.vs) : cntsR F.N ts = F.C := by
  unfold cntsR Fam.C
  rw [h]
/-- What At finds. -/
theorem at_none {F : Fam} {ts : List RT} (h : ts.map RT.vol = F.vs) {nm : List UInt8} (hn : getV F.vs nm = none) : atC ts nm = -1 := by
  refine atC_none fun x hx => ?_
  have : x.nm ≠ nm := getV_none.1 hn x.vol (by rw [← h]; exact List.mem_map_of_mem hx)
  simpa using this
theorem at_some {F : Fam} {ts : List RT} (h : ts.map RT.vol = F.vs) {nm : List UInt8} {v : Vol} (hn : getV F.vs nm = some v) : ∃ (k : Nat) (hk : k < ts.length), atC ts nm = k ∧ ts[k].vol = v ∧ ts[k].nm = nm := by
  cases hp : placeR ts nm with
  | none =>
    exfalso
    have h1 := List.findIdx?_eq_none_iff.1 hp
    obtain ⟨h2, h3⟩ := getV_mem hn
    rw [← h] at h2
    obtain ⟨x, hx, rfl⟩ := List.mem_map.1 h2
    have h3 : x.nm = nm := h3
    have := h1 x hx
    rw [h3] at this
    simp at this
  | some k =>
    obtain ⟨hk, h1, h2⟩ := List.findIdx?_eq_some_iff_getElem.1 hp
    have h3 : ts[k].nm = nm := by simpa using h1
    refine ⟨k, hk, by simp [atC, hp], ?_, h3⟩
    have h4 : getV F.vs nm = some ts[k].vol := by
      rw [← h]
      unfold getV
      rw [List.find?_map]
      have : ts.find? ((fun w : Vol => w.nm == nm) ∘ RT.vol) = some ts[k] := by
        refine List.find?_eq_some_iff_getElem.2 ⟨by show (ts[k].nm == nm) = true; simpa using h3, k, hk, rfl, fun j hj => ?_⟩
        have := h2 j hj
        show (!(ts[j].nm == nm)) = true
        simpa using this
      rw [this]
      rfl
    rw [hn] at h4
    exact (Option.some.inj h4).symm
end Go.Proofs.YtpakjddfnhnndaaGreat
