/-
  package family: New, with, vacant, has, find, Name.
  Conditions: as each theorem says.
-/
import Derived.Test.YtpakjddfnhnndaaGreatFaJ
import Derived.Test.YtpakjddfnhnndaaGreatGF
import Derived.Shelf.SlMaps.Clone
import Derived.Shelf.Lay
import Derived.Ground.SlmcProg
import Derived.Laws.ResultCell
namespace Go.Proofs.YtpakjddfnhnndaaGreat
set_option linter.unusedSimpArgs false
set_option linter.unusedVariables false
set_option maxRecDepth 100000
open Go.RowKit Go.Maps Go.Shelf

shelf_lay_g SlLaysW.n5 Slmc 5 at Tryz 78 as Tryz.cloneM
theorem clone_none (w : World) : Calls Tryz.prog 78 #[.map none] w fun e w' => e = .returned (.map none) ∧ w = w' := (AnyW.maps_Clone_nil Tryz.cloneM w).mono fun _ _ ⟨h1, h2⟩ => ⟨h1, h2.symm⟩
theorem clone_some (b : Nat) (ts : List VT) (w : World) (h : mapIs w b ts) : Calls Tryz.prog 78 #[.map (some b)] w fun e w' => e = .returned (.map (some w.heap.size)) ∧ mapIs w' w.heap.size ts ∧ Below w.heap.size w w' :=
  (AnyW.maps_Clone_owns Tryz.cloneM 9 heldR b ts.length (dataT ts) w h).mono fun _ _ ⟨h1, h2, _, h4⟩ => ⟨h1, h2, h4⟩
set_option maxHeartbeats 2000000 in
theorem fnew_yes (n : Nat) (w : World) (hn : n ≤ 65536) : Calls Tryz.prog 18 #[.int .i64 n] w fun e w' => ∃ fv, e = .returned (.tuple #[fv, .int .i64 0]) ∧ FamV w' fv ⟨n, []⟩ ∧ Below w.heap.size w w' := by
  go_enter Tryz.func18, Tryz.ntmps18
  go_wp2_with fail
  refine (new_yes n _ hn).mono ?_
  rintro e w1 ⟨v, rfl, ho, hb⟩
  obtain ⟨a, c, rfl, hr⟩ := ho.rd (by simp; omega)
  have hrl : (List.replicate n (0 : Int)).length = n := by simp
  rw [hrl] at *
  have hR := ((RF.new w w 28 (Below.refl _ _)).later hb).later ((Below.refl w1.heap.size w1).onAlloc (.cells #[.slice a n c] 25))
  have hr1 := hr.keep ((Below.refl w1.heap.size w1).onAlloc (.cells #[.slice a n c] 25))
  have g0 := hR.r0
  have g1 := hR.r1
  have f0 := hR.f0
  have f1 := hR.f1
  have HR := Lib.hid hR
  have HI := Lib.hid (hR.ints (u := .slice a n c) (v := .map none) hr1)
  clear ho hr hb hR hr1 hrl
  go_wp2_with fail
  obtain ⟨k0, k1⟩ := HR.out.cells (u := .slice a n c) (v := .map none)
  (try simp only [Exit.inBlock, Exit.then])
  refine bodyPost_ret (v := .tuple #[.agg #[.slice a n c, .map none], .int .i64 0]) (by first | (rw [results_cell_tmp rfl]; go_simp; done) | (rw [results_cell_tmp2 rfl]; go_simp; done) | (rw [results_cell_one rfl]; go_simp; done)) rfl ?_
  exact ⟨_, rfl, ⟨a, c, none, rfl, HI.out, [], rfl, by simp, .inl ⟨rfl, rfl⟩⟩, HR.out.below⟩
/-- What with hands back: the map with another or a changed volume. -/
def WithPost (w : World) (cv : Value) (ts : List VT) (p : VT) (e : Ending) (w' : World) : Prop :=
  ∃ b, e = .returned (.agg #[cv, .map (some b)]) ∧ RdT w' (some b) (insT p (delT ts p.nm)) ∧ Below w.heap.size w w'
theorem RdT.insert {w w' : World} {mb : Option Nat} {ts : List VT} {p : VT} {b : Nat} (h : RdT w mb ts) (hp : IsTr w (.pointer p.a) p.t) (hb : Below w.heap.size w w') (hm : mapIs w' b (insT p (delT ts p.nm))) : RdT w' (some b) (insT p (delT ts p.nm)) :=
  ⟨fun q hq => by
    rcases mem_insT.1 hq with rfl | hq
    · exact IsTr.keep hb _ hp
    · exact IsTr.keep hb _ (h.1 q (mem_delT.1 hq).1), .inr ⟨b, rfl, hm⟩⟩
set_option maxHeartbeats 4000000 in
theorem with_is (a0 : Option Addr) (n0 c0 : Nat) (a : Option Addr) (n c : Nat) (mb : Option Nat) (ts : List VT) (p : VT) (w : World) (h : RdT w mb ts) (hp : IsTr w (.pointer p.a) p.t) (hn : p.nm.length ≤ maxLen) (hl : ts.length ≤ 1000) :
    Calls Tryz.prog 65 #[.agg #[.slice a0 n0 c0, .map mb], .agg #[.slice a n c], nmV p.nm, p.val] w (WithPost w (.slice a n c) ts p) := by
  have hR0 : RF w ((((w.alloc (.cells #[.slice a0 n0 c0, .map mb] 28)).alloc (.cells #[.slice a n c] 25)).alloc (.cells #[.int .i64 p.n, .int .i64 p.r, .pointer p.a] 114)).alloc (.cells #[.slice none 0 0, .map none] 28)) (((w.alloc (.cells #[.slice a0 n0 c0, .map mb] 28)).alloc (.cells #[.slice a n c] 25)).alloc (.cells #[.int .i64 p.n, .int .i64 p.r, .pointer p.a] 114)).heap.size := RF.new w _ _ (by (repeat (first | exact Below.refl _ _ | assumption | refine Below.onNext ?_ _ | refine Below.onAlloc ?_ _ | refine Below.setCell ?_ (by simp) _ | refine Below.drew ?_)))
  have e0 : (((w.alloc (.cells #[.slice a0 n0 c0, .map mb] 28)).alloc (.cells #[.slice a n c] 25)).alloc (.cells #[.int .i64 p.n, .int .i64 p.r, .pointer p.a] 114)).heap.size = w.heap.size + 1 + 1 + 1 := by simp
  rw [e0] at hR0
  have k0 : ∀ i, ((((w.alloc (.cells #[.slice a0 n0 c0, .map mb] 28)).alloc (.cells #[.slice a n c] 25)).alloc (.cells #[.int .i64 p.n, .int .i64 p.r, .pointer p.a] 114)).alloc (.cells #[.slice none 0 0, .map none] 28)).cell? ⟨w.heap.size + 1, i, none⟩ = ((w.alloc (.cells #[.slice a0 n0 c0, .map mb] 28)).alloc (.cells #[.slice a n c] 25)).cell? ⟨w.heap.size + 1, i, none⟩ := fun i => by
    rw [World.cell?_alloc_lt _ _ _ (by simp), World.cell?_alloc_lt _ _ _ (by simp)]
  have k1 : ∀ i, ((((w.alloc (.cells #[.slice a0 n0 c0, .map mb] 28)).alloc (.cells #[.slice a n c] 25)).alloc (.cells #[.int .i64 p.n, .int .i64 p.r, .pointer p.a] 114)).alloc (.cells #[.slice none 0 0, .map none] 28)).cell? ⟨w.heap.size, i, none⟩ = (w.alloc (.cells #[.slice a0 n0 c0, .map mb] 28)).cell? ⟨w.heap.size, i, none⟩ := fun i => by
    rw [World.cell?_alloc_lt _ _ _ (by simp; omega), World.cell?_alloc_lt _ _ _ (by simp; omega), World.cell?_alloc_lt _ _ _ (by simp)]
  have k2 : ∀ i, ((((w.alloc (.cells #[.slice a0 n0 c0, .map mb] 28)).alloc (.cells #[.slice a n c] 25)).alloc (.cells #[.int .i64 p.n, .int .i64 p.r, .pointer p.a] 114)).alloc (.cells #[.slice none 0 0, .map none] 28)).cell? ⟨w.heap.size + 1 + 1, i, none⟩ = (((w.alloc (.cells #[.slice a0 n0 c0, .map mb] 28)).alloc (.cells #[.slice a n c] 25)).alloc (.cells #[.int .i64 p.n, .int .i64 p.r, .pointer p.a] 114)).cell? ⟨w.heap.size + 1 + 1, i, none⟩ := fun i => by
    rw [World.cell?_alloc_lt _ _ _ (by simp)]
  have q0 := (k1 1).trans (show _ = some (.map mb) by simp)
  have q1 := (k0 0).trans (show _ = some (.slice a n c) by simp)
  have q2 := (k2 0).trans (by rw [World.cell?_alloc_at (hn := by simp)]; rfl : _ = some (.int .i64 p.n))
  have q3 := (k2 1).trans (by rw [World.cell?_alloc_at (hn := by simp)]; rfl : _ = some (.int .i64 p.r))
  have q4 := (k2 2).trans (by rw [World.cell?_alloc_at (hn := by simp)]; rfl : _ = some (.pointer p.a))
  have HT := Lib.hid (h.keep hR0.bel)
  have HP := Lib.hid (IsTr.keep hR0.bel _ hp)
  have HR := Lib.hid hR0
  clear k0 k1 k2 e0 h hp hR0
  go_enter Tryz.func65, Tryz.ntmps65
  go_wp2_with fail
  obtain ⟨W, hW⟩ : ∃ W, ((((w.alloc (.cells #[.slice a0 n0 c0, .map mb] 28)).alloc (.cells #[.slice a n c] 25)).alloc (.cells #[.int .i64 p.n, .int .i64 p.r, .pointer p.a] 114)).alloc (.cells #[.slice none 0 0, .map none] 28)) = W := ⟨_, rfl⟩
  rw [hW] at q0 q1 q2 q3 q4 HT HP HR ⊢
  clear hW
  have hq := fun w p => run_eql_map_nil_sl (P := Tryz.prog) w 26 _ _ p Tryz.underlying26
  have hmm := @run_makeMap Tryz.prog
  have fin : ∀ (b : Nat) (w2 : World), Below W.heap.size W w2 → w2.ownsMap Tryz.prog 9 heldR b (ts.length + 1) ((dataT ts).put (.string p.nm) (.held p.val)) → RF w w2 (w.heap.size + 1 + 1 + 1) ∧ RdT (fam2 w2 (w.heap.size + 1 + 1 + 1) (.slice a n c) (.map (some b))) (some b) (insT p (delT ts p.nm)) := fun b w2 hb2 hm2 => by
    rw [ent_put] at hm2
    have hR := HR.out.later hb2
    refine ⟨hR, ⟨fun q hq => ?_, .inr ⟨b, rfl, hR.map (map_exact hm2)⟩⟩⟩
    rcases mem_insT.1 hq with rfl | hq
    · exact hR.tree _ (IsTr.keep hb2 _ HP.out)
    · exact hR.tree _ (IsTr.keep hb2 _ (HT.out.1 q (mem_delT.1 hq).1))
  have FIN := Lib.hid fin
  clear fin
  rcases HT.out.2 with ⟨rfl, rfl⟩ | ⟨b, rfl, hm⟩
  · refine (clone_none _).mono ?_
    rintro e w1 ⟨rfl, rfl⟩
    have hB0 := (Below.refl W.heap.size W).onAlloc (.map #[] 0)
    go_wp2_with (at_mapUpdate; refine wpList_mapUpdate_own _ rfl _ _ _ 26 rfl 9 114 strKeyed Tryz.underlying26 heldR W.heap.size 0 (dataT []) rfl (World.ownsMap_made W _ _ _) (by decide) _ _ (.string p.nm) rfl rfl (nmKey hn) (.held p.val) [] (heldR_mk _) ?_; intro w2 hown2 hgrow2; have hb2 : Below W.heap.size W w2 := hB0.grown hgrow2 (by simp) (fun k hk => by cases hk; exact Nat.le_refl _); have y1 := hb2.keep q1; obtain ⟨hR, hT⟩ := FIN.out _ _ hb2 hown2; have r0 := hR.r0; have r1 := hR.r1; have f0 := hR.f0; have f1 := hR.f1; have HR2 := Lib.hid hR; have HT2 := Lib.hid hT; clear hR hT hown2 hgrow2 hb2)
    obtain ⟨j0, j1⟩ := HR2.out.cells (u := .slice a n c) (v := .map (some W.heap.size))
    (try simp only [Exit.inBlock, Exit.then])
    refine bodyPost_ret (v := .agg #[.slice a n c, .map (some W.heap.size)]) (by first | (rw [results_cell_tmp rfl]; go_simp; done) | (rw [results_cell_tmp2 rfl]; go_simp; done) | (rw [results_cell_one rfl]; go_simp; done)) rfl ?_
    exact ⟨_, rfl, HT2.out, HR2.out.below⟩
  · refine (clone_some b ts _ hm).mono ?_
    rintro e w1 ⟨rfl, hm1, hb1⟩
    have HQ1 := Lib.hid q1
    have q1 := hb1.keep q1
    have q2 := hb1.keep q2
    have q3 := hb1.keep q3
    have q4 := hb1.keep q4
    have HM1 := Lib.hid hm1
    have HB1 := Lib.hid hb1
    clear hm hm1 hb1
    go_wp2_with (at_mapUpdate; refine wpList_mapUpdate_own _ rfl _ _ _ 26 rfl 9 114 strKeyed Tryz.underlying26 heldR W.heap.size ts.length (dataT ts) rfl HM1.out (by simp only [maxLen]; omega) _ _ (.string p.nm) rfl rfl (nmKey hn) (.held p.val) [] (heldR_mk _) ?_; intro w2 hown2 hgrow2; have hb2 : Below W.heap.size W w2 := HB1.out.grown hgrow2 HB1.out.size (fun k hk => by cases hk; exact Nat.le_refl _); have y1 := hb2.keep (HQ1.out); obtain ⟨hR, hT⟩ := FIN.out _ _ hb2 hown2; have r0 := hR.r0; have r1 := hR.r1; have f0 := hR.f0; have f1 := hR.f1; have HR2 := Lib.hid hR; have HT2 := Lib.hid hT; clear hR hT hown2 hgrow2 hb2)
    obtain ⟨j0, j1⟩ := HR2.out.cells (u := .slice a n c) (v := .map (some W.heap.size))
    (try simp only [Exit.inBlock, Exit.then])
    refine bodyPost_ret (v := .agg #[.slice a n c, .map (some W.heap.size)]) (by first | (rw [results_cell_tmp rfl]; go_simp; done) | (rw [results_cell_tmp2 rfl]; go_simp; done) | (rw [results_cell_one rfl]; go_simp; done)) rfl ?_
    exact ⟨_, rfl, HT2.out, HR2.out.below⟩
def vacC (vs : List Vol) (nm : List UInt8) : Int := if (getV vs nm).isSome then 10 else if 32 ≤ vs.length then 7 else 0
set_option maxHeartbeats 4000000 in
theorem vacant_is (a : Option Addr) (n c : Nat) (mb : Option Nat) (ts : List VT) (nm : List UInt8) (w : World) (h : RdT w mb ts) (hn : nm.length ≤ maxLen) (r : Int) (hr : vacC (ts.map VT.vol) nm = r) :
    Calls Tryz.prog 64 #[.agg #[.slice a n c, .map mb], nmV nm] w fun e w' => e = .returned (.int .i64 r) ∧ Below w.heap.size w w' := by
  have hl := look_run (h.keep ((Below.refl w.heap.size w).onAlloc (.cells #[.slice a n c, .map mb] 28))) hn
  unfold vacC at hr
  rw [getT_vol] at hr
  cases hg : getT ts nm with
  | some p =>
    rw [lookB_some hg] at hl
    rw [hg] at hr
    obtain rfl : (10 : Int) = r := by simpa using hr
    have hl := hl
    clear h hg hr
    go_enter Tryz.func64, Tryz.ntmps64
    go_wp2_with fail
    go_ret
    exact ⟨rfl, by (repeat (first | exact Below.refl _ _ | assumption | refine Below.onNext ?_ _ | refine Below.onAlloc ?_ _ | refine Below.setCell ?_ (by simp) _ | refine Below.drew ?_))⟩
  | none =>
    rw [lookB_none hg] at hl
    rw [hg] at hr
    have hlen := fun ty => len_run (h.keep (((Below.refl w.heap.size w).onAlloc (.cells #[.slice a n c, .map mb] 28)).onAlloc (.cells #[.int .i64 0, .int .i64 0, .pointer none] 114))) ty
    clear h hg
    by_cases h32 : 32 ≤ ts.length
    · obtain rfl : (7 : Int) = r := by simpa [h32] using hr
      clear hr
      go_enter Tryz.func64, Tryz.ntmps64
      go_wp2_with fail
      go_ret
      exact ⟨rfl, by (repeat (first | exact Below.refl _ _ | assumption | refine Below.onNext ?_ _ | refine Below.onAlloc ?_ _ | refine Below.setCell ?_ (by simp) _ | refine Below.drew ?_))⟩
    · obtain rfl : (0 : Int) = r := by simpa [h32] using hr
      clear hr
      go_enter Tryz.func64, Tryz.ntmps64
      go_wp2_with fail
      go_ret
      exact ⟨rfl, by (repeat (first | exact Below.refl _ _ | assumption | refine Below.onNext ?_ _ | refine Below.onAlloc ?_ _ | refine Below.setCell ?_ (by simp) _ | refine Below.drew ?_))⟩
set_option maxHeartbeats 1000000 in
theorem has_any (n r : Int) (a : Option Addr) (p q : Int) (w : World) (hn : 0 ≤ n ∧ n ≤ 65536) (hp : -9223372036854775808 ≤ p ∧ p ≤ 9223372036854775807) :
    Calls Tryz.prog 102 #[.agg #[.int .i64 n, .int .i64 r, .pointer a], .int .i64 p, .int .i64 q] w fun e w' => e = .returned (.bool (inB p q n)) ∧ Below w.heap.size w w' := by
  go_enter Tryz.func102, Tryz.ntmps102
  go_wp2
  all_goals
    go_ret
    exact ⟨ret_bool (by simp only [inB, decide_eq_true_eq, Bool.false_eq_true, false_iff]; omega), by (repeat (first | exact Below.refl _ _ | assumption | refine Below.onNext ?_ _ | refine Below.onAlloc ?_ _ | refine Below.setCell ?_ (by simp) _ | refine Below.drew ?_))⟩
theorem has_is (n r : Int) (a : Option Addr) (p q : Int) (w : World) (hn : 0 ≤ n ∧ n ≤ 65536) (hp : -9223372036854775808 ≤ p ∧ p ≤ 9223372036854775807) (b : Bool) (hb : inB p q n = b) :
    Calls Tryz.prog 102 #[.agg #[.int .i64 n, .int .i64 r, .pointer a], .int .i64 p, .int .i64 q] w fun e w' => e = .returned (.bool b) ∧ Below w.heap.size w w' := by
  subst hb
  exact has_any n r a p q w hn hp
/-- What find yields. -/
def findC (ts : List VT) (nm : List UInt8) (p q : Int) : Value × Int := match getT ts nm with
  | none => (.agg #[.int .i64 0, .int .i64 0, .pointer none], 9)
  | some v => if inB p q v.n = false then (.agg #[.int .i64 0, .int .i64 0, .pointer none], 2) else (v.val, 0)
set_option maxHeartbeats 4000000 in
theorem ffind_is (a : Option Addr) (n c : Nat) (mb : Option Nat) (ts : List VT) (nm : List UInt8) (p q : Int) (w : World) (h : RdT w mb ts) (hn : nm.length ≤ maxLen) (hts : ∀ v ∈ ts, 0 ≤ v.n ∧ v.n ≤ 65536) (hp : -9223372036854775808 ≤ p ∧ p ≤ 9223372036854775807) :
    Calls Tryz.prog 66 #[.agg #[.slice a n c, .map mb], nmV nm, .int .i64 p, .int .i64 q] w fun e w' => e = .returned (.tuple #[(findC ts nm p q).1, .int .i64 (findC ts nm p q).2]) ∧ Below w.heap.size w w' := by
  have hl := look_run (h.keep (((Below.refl w.heap.size w).onAlloc (.cells #[.slice a n c, .map mb] 28)).onAlloc (.cells #[.int .i64 0, .int .i64 0, .pointer none] 114))) hn
  unfold findC
  cases hg : getT ts nm with
  | none =>
    rw [lookB_none hg] at hl
    clear h hg
    go_enter Tryz.func66, Tryz.ntmps66
    go_wp2_with fail
    (try simp only [Exit.inBlock, Exit.then])
    refine bodyPost_ret (v := .tuple #[.agg #[.int .i64 0, .int .i64 0, .pointer none], .int .i64 9]) (by first | (rw [results_cell_tmp rfl]; go_simp; done) | (rw [results_cell_tmp2 rfl]; go_simp; done) | (rw [results_cell_one rfl]; go_simp; done)) rfl ?_
    exact ⟨rfl, by (repeat (first | exact Below.refl _ _ | assumption | refine Below.onNext ?_ _ | refine Below.onAlloc ?_ _ | refine Below.setCell ?_ (by simp) _ | refine Below.drew ?_))⟩
  | some v =>
    rw [lookB_some hg] at hl
    have hv := hts v (getT_mem hg).1
    clear h hg hts
    cases hb : inB p q v.n
    all_goals
      have hW : Below w.heap.size w (((w.alloc (.cells #[.slice a n c, .map mb] 28)).alloc (.cells #[.int .i64 0, .int .i64 0, .pointer none] 114)).alloc (.cells #[.int .i64 v.n, .int .i64 v.r, .pointer v.a] 114)) := by (repeat (first | exact Below.refl _ _ | assumption | refine Below.onNext ?_ _ | refine Below.onAlloc ?_ _ | refine Below.setCell ?_ (by simp) _ | refine Below.drew ?_))
      have k1 : ∀ i, (((w.alloc (.cells #[.slice a n c, .map mb] 28)).alloc (.cells #[.int .i64 0, .int .i64 0, .pointer none] 114)).alloc (.cells #[.int .i64 v.n, .int .i64 v.r, .pointer v.a] 114)).cell? ⟨w.heap.size + 1, i, none⟩ = ((w.alloc (.cells #[.slice a n c, .map mb] 28)).alloc (.cells #[.int .i64 0, .int .i64 0, .pointer none] 114)).cell? ⟨w.heap.size + 1, i, none⟩ := fun i => by
        rw [World.cell?_alloc_lt _ _ _ (by simp)]
      have k2 : ∀ i, (((w.alloc (.cells #[.slice a n c, .map mb] 28)).alloc (.cells #[.int .i64 0, .int .i64 0, .pointer none] 114)).alloc (.cells #[.int .i64 v.n, .int .i64 v.r, .pointer v.a] 114)).frozen? ⟨w.heap.size + 1, i, none⟩ = ((w.alloc (.cells #[.slice a n c, .map mb] 28)).alloc (.cells #[.int .i64 0, .int .i64 0, .pointer none] 114)).frozen? ⟨w.heap.size + 1, i, none⟩ := fun i => by
        rw [World.frozen?_alloc_old _ _ _ (by simp)]
      have r0 := (k1 0).trans (show _ = some (.int .i64 0) by simp)
      have r1 := (k1 1).trans (show _ = some (.int .i64 0) by simp)
      have r2 := (k1 2).trans (show _ = some (.pointer none) by simp)
      have f0 := (k2 0).trans (show _ = false by simp)
      have f1 := (k2 1).trans (show _ = false by simp)
      have f2 := (k2 2).trans (show _ = false by simp)
      have HW := Lib.hid hW
      clear k1 k2 hW
    · go_enter Tryz.func66, Tryz.ntmps66
      go_wp2_with fail
      refine (has_is v.n v.r v.a p q _ hv hp false hb).mono ?_
      rintro e w1 ⟨rfl, hb1⟩
      have f0 := hb1.keepF r0 f0
      have f1 := hb1.keepF r1 f1
      have f2 := hb1.keepF r2 f2
      have r0 := hb1.keep r0
      have r1 := hb1.keep r1
      have r2 := hb1.keep r2
      have hB := HW.out.on hb1
      have HBB := Lib.hid (((hB.setCell (p := ⟨w.heap.size + 1, 0, none⟩) (by simp) (.int .i64 0)).setCell (p := ⟨w.heap.size + 1, 1, none⟩) (by simp) (.int .i64 0)).setCell (p := ⟨w.heap.size + 1, 2, none⟩) (by simp) (.pointer none))
      clear hb1 hB
      go_wp2_with fail
      obtain ⟨j0, j1, j2⟩ := own_set3 (u0 := .int .i64 0) (u1 := .int .i64 0) (u2 := .pointer none) r0 r1 r2
      (try simp only [Exit.inBlock, Exit.then])
      refine bodyPost_ret (v := .tuple #[.agg #[.int .i64 0, .int .i64 0, .pointer none], .int .i64 2]) (by first | (rw [results_cell_tmp rfl]; go_simp; done) | (rw [results_cell_tmp2 rfl]; go_simp; done) | (rw [results_cell_one rfl]; go_simp; done)) rfl ?_
      exact ⟨rfl, HBB.out⟩
    · go_enter Tryz.func66, Tryz.ntmps66
      go_wp2_with fail
      refine (has_is v.n v.r v.a p q _ hv hp true hb).mono ?_
      rintro e w1 ⟨rfl, hb1⟩
      have f0 := hb1.keepF r0 f0
      have f1 := hb1.keepF r1 f1
      have f2 := hb1.keepF r2 f2
      have r0 := hb1.keep r0
      have r1 := hb1.keep r1
      have r2 := hb1.keep r2
      have y0 : w1.cell? ⟨w.heap.size + 1 + 1, 0, none⟩ = some (.int .i64 v.n) := hb1.keep (by rw [World.cell?_alloc_at (hn := by simp)]; rfl)
      have y1 : w1.cell? ⟨w.heap.size + 1 + 1, 1, none⟩ = some (.int .i64 v.r) := hb1.keep (by rw [World.cell?_alloc_at (hn := by simp)]; rfl)
      have y2 : w1.cell? ⟨w.heap.size + 1 + 1, 2, none⟩ = some (.pointer v.a) := hb1.keep (by rw [World.cell?_alloc_at (hn := by simp)]; rfl)
      have hB := HW.out.on hb1
      have HBB := Lib.hid (((hB.setCell (p := ⟨w.heap.size + 1, 0, none⟩) (by simp) (.int .i64 v.n)).setCell (p := ⟨w.heap.size + 1, 1, none⟩) (by simp) (.int .i64 v.r)).setCell (p := ⟨w.heap.size + 1, 2, none⟩) (by simp) (.pointer v.a))
      clear hb1 hB
      go_wp2_with fail
      all_goals
        obtain ⟨j0, j1, j2⟩ := own_set3 (u0 := .int .i64 v.n) (u1 := .int .i64 v.r) (u2 := .pointer v.a) r0 r1 r2
        (try simp only [Exit.inBlock, Exit.then])
        refine bodyPost_ret (v := .tuple #[.agg #[.int .i64 v.n, .int .i64 v.r, .pointer v.a], .int .i64 0]) (by first | (rw [results_cell_tmp rfl]; go_simp; done) | (rw [results_cell_tmp2 rfl]; go_simp; done) | (rw [results_cell_one rfl]; go_simp; done)) rfl ?_
        exact ⟨rfl, HBB.out⟩
end Go.Proofs.YtpakjddfnhnndaaGreat
