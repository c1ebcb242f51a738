/-
  package entry: Decode.
  Conditions: as each theorem says.
-/
import Derived.Test.YtbiecglooagmmaaScB
import Derived.Test.YtbiecglooagmmaaScC
import Derived.StillTailTactics
import Derived.Deep.RegionHeld3
namespace Go.Proofs.Ytbiecglooagmmaa
set_option linter.unusedSimpArgs false
set_option linter.unusedVariables false
set_option maxRecDepth 100000
open Go.RowKit

theorem sres_cell_tmp2 {fn : Func} {p u u' : Tmp} {ty : TypeId} (h : fn.results = #[.cell p ty, .tmp u, .tmp u']) (tmps : Array Value) (P : Program) (w : World) :
    (results fn tmps).run P w =
      ((asAddr (tmps.getD p undef)).run P w).andThen fun a w₁ => ((loadVar ty a).run P w₁).andThen fun v w₂ => .ok (.tuple #[v, tmps.getD u undef, tmps.getD u' undef]) w₂ := by
  simp only [results, h]
  simp [Sem.run_bind, Result.andThen]
theorem sres_cell_one {fn : Func} {p : Tmp} {ty : TypeId} (h : fn.results = #[.cell p ty]) (tmps : Array Value) (P : Program) (w : World) :
    (results fn tmps).run P w = ((asAddr (tmps.getD p undef)).run P w).andThen fun a w₁ => (loadVar ty a).run P w₁ := by
  simp only [results, h]
  simp [Sem.run_bind, Result.andThen]
def DecP (l : List UInt8) (w : World) (e : Ending) (w' : World) : Prop := e = .returned (.tuple #[(dec l).1.v, .int .u64 (dec l).2.1, .int .i64 (dec l).2.2]) ∧ Below w.heap.size w w'
theorem dec_long {l : List UInt8} (h : l.length ≠ 37) : dec l = (zeroE, 0, 5) := by unfold dec; rw [if_neg h]
theorem dec_sum {l : List UInt8} (h : l.length = 37) (hs : crcN (l.take 29) ≠ getL (l.drop 29)) : dec l = (zeroE, 0, 6) := by unfold dec; rw [if_pos h, if_neg hs]
theorem dec_bad {l : List UInt8} (h : l.length = 37) (hs : crcN (l.take 29) = getL (l.drop 29)) (hv : (decE l).ok = false) : dec l = (zeroE, 0, 5) := by unfold dec; rw [if_pos h, if_pos hs, hv]; rfl
theorem dec_good {l : List UInt8} (h : l.length = 37) (hs : crcN (l.take 29) = getL (l.drop 29)) (hv : (decE l).ok = true) : dec l = (decE l, ((getL ((l.drop 21).take 8) : Nat) : Int), 0) := by unfold dec; rw [if_pos h, if_pos hs, if_pos hv]
theorem zeroE_v : zeroE.v = .agg #[.int .i64 0, .int .i64 0, .int .u64 0, .int .u8 0, .int .u8 0, .int .u8 0, .int .u8 0, .int .u8 0, .int .u8 0, .int .u8 0, .int .u8 0] := by rfl
theorem RdY.mid {w : World} {b o : Nat} {l : List UInt8} (h : RdY w (some ⟨b, o, none⟩) l) (i n : Nat) (hn : i + n ≤ l.length) : RdY w (some ⟨b, o + i, none⟩) ((l.drop i).take n) ∧ ((l.drop i).take n).length = n :=
  ⟨(h.drop i).take n, by rw [List.length_take, List.length_drop]; omega⟩
abbrev cz11 : Array Value := #[.int .i64 0, .int .i64 0, .int .u64 0, .int .u8 0, .int .u8 0, .int .u8 0, .int .u8 0, .int .u8 0, .int .u8 0, .int .u8 0, .int .u8 0]
theorem wp_region_drewN_tail {P : Program} {id : Nat} {Q : Exit → Act → World → Prop} {a : Act} {w : World} {l : List Oper} (n : Nat) (hm : P.follows .mixedOrders = true) (hB : Region.lexTailB .any l.toArray n = true)
    (h : wpQuiet P l.toArray (fun w' => ∃ n, w' = w.drewN n) (fun a' => ∀ w', (∃ n, w' = w.drewN n) → wpList P l.toArray Q (l.drop n) a' w') (l.take n) a) : (Code.region id l.toArray true).wp P Q a w :=
  wp_region_quiet_tail n hm hB ⟨1, rfl⟩ h
abbrev setE (W : World) (R : Nat) (v0 v1 v2 v3 v4 v5 v6 v7 v8 v9 v10 : Value) : World := ((((((((((W.setCell ⟨R, 0, none⟩ v0).setCell ⟨R, 1, none⟩ v1).setCell ⟨R, 2, none⟩ v2).setCell ⟨R, 3, none⟩ v3).setCell ⟨R, 4, none⟩ v4).setCell ⟨R, 5, none⟩ v5).setCell ⟨R, 6, none⟩ v6).setCell ⟨R, 7, none⟩ v7).setCell ⟨R, 8, none⟩ v8).setCell ⟨R, 9, none⟩ v9).setCell ⟨R, 10, none⟩ v10
theorem setCell_drewN (w : World) (n : Nat) (a : Addr) (v : Value) : (w.drewN n).setCell a v = (w.setCell a v).drewN n := rfl
theorem setE_new (w : World) (n : Nat) (t : TypeId) (u0 u1 u2 u3 u4 u5 u6 u7 u8 u9 u10 v0 v1 v2 v3 v4 v5 v6 v7 v8 v9 v10 : Value) :
    setE ((w.alloc (.cells #[u0, u1, u2, u3, u4, u5, u6, u7, u8, u9, u10] t)).drewN n) w.heap.size v0 v1 v2 v3 v4 v5 v6 v7 v8 v9 v10 = (w.alloc (.cells #[v0, v1, v2, v3, v4, v5, v6, v7, v8, v9, v10] t)).drewN n := by
  unfold setE
  simp only [setCell_drewN, World.setCell_alloc_new, List.setIfInBounds_toArray, List.set_cons_zero, List.set_cons_succ]
theorem setCell_id {w : World} {a : Addr} {v : Value} (h : w.cell? a = some v) : w.setCell a v = w := by
  have hm : w.heap.modify a.block (fun | .cells c elem frozen => .cells (if a.spot.isSome then c else c.setIfInBounds a.off v) elem frozen | o => o) = w.heap := by
    apply Array.ext (by simp)
    intro i h1 h2
    rw [Array.getElem_modify]
    split
    · rename_i e
      subst e
      unfold World.cell? at h
      rw [Array.getElem?_eq_getElem h2] at h
      split at h
      · rename_i c t fz hc
        injection hc with hc
        rw [hc]
        split at h
        · cases h
        · rename_i hs
          simp only [hs, if_false, Bool.false_eq_true]
          congr 1
          apply Array.ext (by simp)
          intro j j1 j2
          rw [Array.getElem_setIfInBounds]
          split
          · rename_i e
            subst e
            rw [Array.getElem?_eq_getElem j2] at h
            injection h with h
            exact h.symm
          · rfl
      · cases h
    · rfl
  exact congrArg (fun h => ({ w with heap := h } : World)) hm
theorem arrayAt_run (b o c : Nat) (W : World) : (Instr.arrayAt 39 (.slice (some ⟨b, o, none⟩) 8 c)).run Try.prog W = .ok (.pointer (some ⟨b, o, none⟩)) W := by
  simp [Instr.arrayAt, run_underlying Try.underlying39]
structure CE (W : World) (R : Nat) (v0 v1 v2 v3 v4 v5 v6 v7 v8 v9 v10 : Value) : Prop where
  c0 : W.cell? ⟨R, 0, none⟩ = some v0
  c1 : W.cell? ⟨R, 1, none⟩ = some v1
  c2 : W.cell? ⟨R, 2, none⟩ = some v2
  c3 : W.cell? ⟨R, 3, none⟩ = some v3
  c4 : W.cell? ⟨R, 4, none⟩ = some v4
  c5 : W.cell? ⟨R, 5, none⟩ = some v5
  c6 : W.cell? ⟨R, 6, none⟩ = some v6
  c7 : W.cell? ⟨R, 7, none⟩ = some v7
  c8 : W.cell? ⟨R, 8, none⟩ = some v8
  c9 : W.cell? ⟨R, 9, none⟩ = some v9
  c10 : W.cell? ⟨R, 10, none⟩ = some v10
  f : ∀ i, W.frozen? ⟨R, i, none⟩ = false
theorem CE.keep {W W' : World} {R : Nat} {v0 v1 v2 v3 v4 v5 v6 v7 v8 v9 v10 : Value} (h : CE W R v0 v1 v2 v3 v4 v5 v6 v7 v8 v9 v10) (hb : Below W.heap.size W W') : CE W' R v0 v1 v2 v3 v4 v5 v6 v7 v8 v9 v10 :=
  ⟨hb.keep h.c0, hb.keep h.c1, hb.keep h.c2, hb.keep h.c3, hb.keep h.c4, hb.keep h.c5, hb.keep h.c6, hb.keep h.c7, hb.keep h.c8, hb.keep h.c9, hb.keep h.c10, fun i => (hb.frozen (p := ⟨R, i, none⟩) (World.block_lt_of_cell? W ⟨R, 0, none⟩ h.c0)).trans (h.f i)⟩
theorem CE.new (w : World) (t : TypeId) (v0 v1 v2 v3 v4 v5 v6 v7 v8 v9 v10 : Value) : CE (w.alloc (.cells #[v0, v1, v2, v3, v4, v5, v6, v7, v8, v9, v10] t)) w.heap.size v0 v1 v2 v3 v4 v5 v6 v7 v8 v9 v10 := by
  refine ⟨?_, ?_, ?_, ?_, ?_, ?_, ?_, ?_, ?_, ?_, ?_, fun i => by simp⟩ <;> rw [World.cell?_alloc_new] <;> rfl
def setL (W : World) (R : Nat) (k : Nat) : List Value → World
  | [] => W
  | v :: r => setL (W.setCell ⟨R, k, none⟩ v) R (k + 1) r
theorem setL_far (R off : Nat) (vs : List Value) : ∀ (W : World) (k : Nat), off < k → (setL W R k vs).cell? ⟨R, off, none⟩ = W.cell? ⟨R, off, none⟩ := by
  induction vs with
  | nil => intro W k _; rfl
  | cons v r ih =>
    intro W k h
    rw [setL, ih _ _ (by omega), World.cell?_setCell_other _ _ _ _ (fun e => by have := (Addr.mk.inj e).2.1; omega)]
theorem setL_at (R : Nat) (vs : List Value) : ∀ (W : World) (k j : Nat), (∀ i, i < vs.length → (W.cell? ⟨R, k + i, none⟩).isSome = true) → ∀ v, vs[j]? = some v → (setL W R k vs).cell? ⟨R, k + j, none⟩ = some v := by
  induction vs with
  | nil => intro W k j _ v h; simp at h
  | cons x r ih =>
    intro W k j h v hv
    cases j with
    | zero =>
      simp only [List.getElem?_cons_zero, Option.some.injEq] at hv
      subst hv
      obtain ⟨u, hu⟩ := Option.isSome_iff_exists.1 (h 0 (by simp))
      rw [setL, setL_far _ _ _ _ _ (by omega)]
      exact World.cell?_setCell_same _ _ _ hu
    | succ j =>
      rw [setL, show k + (j + 1) = (k + 1) + j by omega]
      refine ih _ _ j (fun i hi => ?_) v (by simpa using hv)
      rw [World.cell?_setCell_other _ _ _ _ (fun e => by have := (Addr.mk.inj e).2.1; omega), show k + 1 + i = k + (i + 1) by omega]
      exact h (i + 1) (by simpa using hi)
theorem setL_frozen (R : Nat) (vs : List Value) (a : Addr) : ∀ (W : World) (k : Nat), (setL W R k vs).frozen? a = W.frozen? a := by
  induction vs with
  | nil => intro W k; rfl
  | cons v r ih => intro W k; rw [setL, ih, World.frozen?_setCell]
theorem setL_below {w : World} {R : Nat} (hR : w.heap.size ≤ R) (vs : List Value) : ∀ (W : World) (k : Nat), Below w.heap.size w W → Below w.heap.size w (setL W R k vs) := by
  induction vs with
  | nil => intro W k h; exact h
  | cons v r ih => intro W k h; exact ih _ _ (h.setCell hR _)
theorem CE.set {W : World} {R : Nat} {u0 u1 u2 u3 u4 u5 u6 u7 u8 u9 u10 : Value} (h : CE W R u0 u1 u2 u3 u4 u5 u6 u7 u8 u9 u10) (v0 v1 v2 v3 v4 v5 v6 v7 v8 v9 v10 : Value) : CE (setE W R v0 v1 v2 v3 v4 v5 v6 v7 v8 v9 v10) R v0 v1 v2 v3 v4 v5 v6 v7 v8 v9 v10 := by
  have hs : ∀ i, i < 11 → (W.cell? ⟨R, 0 + i, none⟩).isSome = true := by
    intro i hi
    rw [Nat.zero_add]
    match i with
    | 0 => rw [h.c0]; rfl
    | 1 => rw [h.c1]; rfl
    | 2 => rw [h.c2]; rfl
    | 3 => rw [h.c3]; rfl
    | 4 => rw [h.c4]; rfl
    | 5 => rw [h.c5]; rfl
    | 6 => rw [h.c6]; rfl
    | 7 => rw [h.c7]; rfl
    | 8 => rw [h.c8]; rfl
    | 9 => rw [h.c9]; rfl
    | 10 => rw [h.c10]; rfl
    | n + 11 => omega
  have hk := fun j v hv => setL_at R [v0, v1, v2, v3, v4, v5, v6, v7, v8, v9, v10] W 0 j hs v hv
  simp only [Nat.zero_add] at hk
  exact ⟨hk 0 _ rfl, hk 1 _ rfl, hk 2 _ rfl, hk 3 _ rfl, hk 4 _ rfl, hk 5 _ rfl, hk 6 _ rfl, hk 7 _ rfl, hk 8 _ rfl, hk 9 _ rfl, hk 10 _ rfl, fun i => (setL_frozen R [v0, v1, v2, v3, v4, v5, v6, v7, v8, v9, v10] _ W 0).trans (h.f i)⟩
theorem CE.below {w W : World} {R : Nat} (h : Below w.heap.size w W) (hR : w.heap.size ≤ R) (v0 v1 v2 v3 v4 v5 v6 v7 v8 v9 v10 : Value) : Below w.heap.size w (setE W R v0 v1 v2 v3 v4 v5 v6 v7 v8 v9 v10) :=
  setL_below hR [v0, v1, v2, v3, v4, v5, v6, v7, v8, v9, v10] W 0 h
theorem CE.same {W : World} {R : Nat} {v0 v1 v2 v3 v4 v5 v6 v7 v8 v9 v10 : Value} (h : CE W R v0 v1 v2 v3 v4 v5 v6 v7 v8 v9 v10) : setE W R v0 v1 v2 v3 v4 v5 v6 v7 v8 v9 v10 = W := by
  unfold setE
  rw [setCell_id h.c0, setCell_id h.c1, setCell_id h.c2, setCell_id h.c3, setCell_id h.c4, setCell_id h.c5, setCell_id h.c6, setCell_id h.c7, setCell_id h.c8, setCell_id h.c9, setCell_id h.c10]
theorem drewN_drewN' (w : World) (a b : Nat) : (w.drewN a).drewN b = w.drewN (a + b) := by
  show ({ w with drawn := w.drawn + a + b } : World) = { w with drawn := w.drawn + (a + b) }
  rw [Nat.add_assoc]
theorem Calls.quiet_same {P : Program} {f : FuncId} {args : Array Value} {w : World} {n : Nat} {v : Value}
    (h : Calls P f args (w.drewN n) fun e w' => e = .returned v ∧ w.drewN n = w') : Calls P f args (w.drewN n) fun e w'' => e = .returned v ∧ ∃ m, w'' = w.drewN m :=
  h.mono fun _ _ ⟨he, hm⟩ => ⟨he, n, hm.symm⟩
theorem RdY.drewN {w : World} {a : Option Addr} {l : List UInt8} (h : RdY w a l) (n : Nat) : RdY (w.drewN n) a l := h.keep (below_drewN (Below.refl _ _) n)
set_option maxHeartbeats 4000000 in
theorem decode_any (l : List UInt8) (a : Option Addr) (c : Nat) (w : World) (hr : RdY w a l) (hc : l.length ≤ c) :
    Calls Try.prog 22 #[.slice a l.length c] w (DecP l w) := by
  have hlen := hr.1
  have HB0 := Lib.hid (fun C => (Below.refl w.heap.size w).onAlloc (.cells C 41))
  by_cases h37 : l.length = 37
  · obtain ⟨b, o, rfl, hat⟩ := hr.at (by omega)
    have HD := Lib.hid (hr.drop 29)
    have hd : (l.drop 29).length = 8 := by rw [List.length_drop]; omega
    have HT := Lib.hid (hr.take 29)
    have ht : (l.take 29).length = 29 := by rw [List.length_take]; omega
    have HG := Lib.hid (fun W h => get_any (l.drop 29) (some ⟨b, o + 29, none⟩) (c - 29) W h (by omega))
    have HS := Lib.hid (fun W h => sum_any (l.take 29) (some ⟨b, o, none⟩) c W h)
    obtain ⟨q1, q2⟩ := sumL_eq (l.take 29)
    rw [q1, ht] at HS
    rw [hd] at HG
    have hdl := getL_lt (l.drop 29)
    rw [hd] at hdl
    have hl37 : (l.length : Int) = 37 := by omega
    rw [h37]
    have hcc : (37 : Int) ≤ c := by omega
    have hi5 : (5 : Int) ≤ c := by omega
    have hi13 : (13 : Int) ≤ c := by omega
    have hi21 : (21 : Int) ≤ c := by omega
    have hi29 : (29 : Int) ≤ c := by omega
    have hn1 : ¬ c = 1 := by omega
    have hn5 : ¬ c = 5 := by omega
    have hn13 : ¬ c = 13 := by omega
    have hn21 : ¬ c = 21 := by omega
    have hn29 : ¬ c = 29 := by omega
    by_cases hs : crcN (l.take 29) = getL (l.drop 29)
    · have HE1 := Lib.hid (fun h => dec_bad h37 hs h)
      have HE2 := Lib.hid (fun h => dec_good h37 hs h)
      have HSV := Lib.hid (fun W => svalid_any (decE l) W)
      have HG1 := Lib.hid (fun W h => get_any ((l.drop 1).take 4) (some ⟨b, o + 1, none⟩) (c - 1) W h (by rw [(hr.mid 1 4 (by omega)).2]; omega))
      have HG2 := Lib.hid (fun W h => get_any ((l.drop 5).take 8) (some ⟨b, o + 5, none⟩) (c - 5) W h (by rw [(hr.mid 5 8 (by omega)).2]; omega))
      have HG3 := Lib.hid (fun W h => get_any ((l.drop 21).take 8) (some ⟨b, o + 21, none⟩) (c - 21) W h (by rw [(hr.mid 21 8 (by omega)).2]; omega))
      rw [(hr.mid 1 4 (by omega)).2] at HG1
      rw [(hr.mid 5 8 (by omega)).2] at HG2
      rw [(hr.mid 21 8 (by omega)).2] at HG3
      have HM1 := Lib.hid (hr.mid 1 4 (by omega)).1
      have HM2 := Lib.hid (hr.mid 5 8 (by omega)).1
      have HM3 := Lib.hid (hr.mid 21 8 (by omega)).1
      have l1 := getL_lt ((l.drop 1).take 4)
      have l2 := getL_lt ((l.drop 5).take 8)
      rw [(hr.mid 1 4 (by omega)).2] at l1
      rw [(hr.mid 5 8 (by omega)).2] at l2
      obtain ⟨vv, hvv⟩ : ∃ v, (decE l).ok = v := ⟨_, rfl⟩
      rw [hvv] at HSV HE1 HE2
      obtain ⟨Ev, hEv⟩ : ∃ E, decE l = E := ⟨_, rfl⟩
      have hE2 := hEv
      rw [hEv] at HE2 HSV
      unfold decE at hE2
      subst hE2
      unfold Ent.v at HSV
      unfold DecP
      clear hEv
      have hcell : ∀ k, k < 37 → w.cell? ⟨b, o + k, none⟩ = some (byV (l.getD k 0)) := fun k hk => hat k _ (by rw [List.getD_eq_getElem?_getD, List.getElem?_eq_getElem (by omega)]; rfl)
      have k0 : w.cell? ⟨b, o, none⟩ = _ := hcell 0 (by omega)
      have k13 := hcell 13 (by omega)
      have k14 := hcell 14 (by omega)
      have k15 := hcell 15 (by omega)
      have k16 := hcell 16 (by omega)
      have k17 := hcell 17 (by omega)
      have k18 := hcell 18 (by omega)
      have k19 := hcell 19 (by omega)
      have k20 := hcell 20 (by omega)
      simp only [byV] at k0 k13 k14 k15 k16 k17 k18 k19 k20 HSV
      generalize l.getD 0 0 = e0 at *
      generalize l.getD 13 0 = d0 at *
      generalize l.getD 14 0 = d1 at *
      generalize l.getD 15 0 = d2 at *
      generalize l.getD 16 0 = d3 at *
      generalize l.getD 17 0 = d4 at *
      generalize l.getD 18 0 = d5 at *
      generalize l.getD 19 0 = d6 at *
      generalize l.getD 20 0 = d7 at *
      have m1 : IntKind.i64.wrap ((getL ((l.drop 1).take 4) : Nat) : Int) = ((getL ((l.drop 1).take 4) : Nat) : Int) := IntWalk.i64_in _ (by omega)
      have n1 : ((getL ((l.drop 1).take 4) : Nat) : Int) ≤ 18446744073709551615 := by omega
      have n2 : ((getL ((l.drop 5).take 8) : Nat) : Int) ≤ 18446744073709551615 := by omega
      have HK := Lib.hid hr
      generalize crcN (l.take 29) = x at *
      generalize getL (l.drop 29) = y at *
      subst hs
      clear hat hr hcell hdl q1 q2 hd ht l1 l2
      have me : IntKind.i64.wrap ((e0.toNat : Nat) : Int) = ((e0.toNat : Nat) : Int) := IntWalk.i64_in _ (by have := e0.toNat_lt; omega)
      generalize getL ((l.drop 1).take 4) = y1 at *
      generalize getL ((l.drop 5).take 8) = y2 at *
      generalize getL ((l.drop 21).take 8) = y3 at *
      have HDN := Lib.hid (fun n => (HD.out.keep (HB0.out cz11)).drewN n)
      have HTN := Lib.hid (fun n => (HT.out.keep (HB0.out cz11)).drewN n)
      go_enter Try.func22, Try.ntmps22
      go_wp2_with fail
      go_quiet ((first | (go_at_call 34; exact Calls.quiet_same (HG.out _ (HDN.out _))) | (go_at_call 35; exact Calls.quiet_same (HS.out _ (HTN.out _)))))
      have HN1 := Lib.hid (fun n => (HM1.out.keep (HB0.out cz11)).drewN n)
      have HN2 := Lib.hid (fun n => (HM2.out.keep (HB0.out cz11)).drewN n)
      clear HDN HTN
      have hAA := arrayAt_run b (o + 13) (c - 13)
      go_wp2_with fail
      refine wp_region_drewN_tail 16 (by kernel_rfl) (by kernel_rfl) ?_
      simp only [List.take_succ_cons, List.take_zero, List.drop_succ_cons, List.drop_zero]
      repeat (quiet_step ((first | (go_at_call 34; with_reducible refine (HG1.out _ (HN1.out _)).mono ?_; rintro e w9 ⟨rfl, rfl⟩; exact ⟨rfl, _, rfl⟩) | (go_at_call 34; with_reducible refine (HG2.out _ (HN2.out _)).mono ?_; rintro e w9 ⟨rfl, rfl⟩; exact ⟨rfl, _, rfl⟩))))
      refine wpQuiet_nil ?_
      intro _ hw'
      obtain ⟨nq, hw''⟩ := hw'
      subst hw''
      have hsd : ∀ (w : World) (n : Nat) (a : Addr) (v : Value), (w.drewN n).setCell a v = (w.setCell a v).drewN n := fun _ _ _ _ => rfl
      go_wp2_with fail
      have HCE := Lib.hid (fun n => (CE.new w 41 (.int .i64 e0.toNat) (.int .i64 y1) (.int .u64 y2) (.int .u8 d0.toNat) (.int .u8 d1.toNat) (.int .u8 d2.toNat) (.int .u8 d3.toNat) (.int .u8 d4.toNat) (.int .u8 d5.toNat) (.int .u8 d6.toNat) (.int .u8 d7.toNat)).keep (below_drewN (Below.refl _ _) n))
      have HBN := Lib.hid (fun n => below_drewN (HB0.out #[.int .i64 e0.toNat, .int .i64 y1, .int .u64 y2, .int .u8 d0.toNat, .int .u8 d1.toNat, .int .u8 d2.toNat, .int .u8 d3.toNat, .int .u8 d4.toNat, .int .u8 d5.toNat, .int .u8 d6.toNat, .int .u8 d7.toNat]) n)
      refine (HSV.out _).mono ?_
      rintro e w1 ⟨rfl, hb⟩
      have HC := Lib.hid ((HCE.out _).keep hb)
      have HW := Lib.hid ((HBN.out _).on hb)
      clear hb HCE HBN HSV HN1 HN2 hAA k0 k13 k14 k15 k16 k17 k18 k19 k20 m1 n1 n2 me
      have c0 := HC.out.c0
      have c1 := HC.out.c1
      have c2 := HC.out.c2
      have c3 := HC.out.c3
      have c4 := HC.out.c4
      have c5 := HC.out.c5
      have c6 := HC.out.c6
      have c7 := HC.out.c7
      have c8 := HC.out.c8
      have c9 := HC.out.c9
      have c10 := HC.out.c10
      have cf := HC.out.f
      cases vv
      · go_wp2_with fail
        have HJ := Lib.hid (HC.out.set (.int .i64 0) (.int .i64 0) (.int .u64 0) (.int .u8 0) (.int .u8 0) (.int .u8 0) (.int .u8 0) (.int .u8 0) (.int .u8 0) (.int .u8 0) (.int .u8 0))
        have HJB := Lib.hid (CE.below HW.out (Nat.le_refl _) (.int .i64 0) (.int .i64 0) (.int .u64 0) (.int .u8 0) (.int .u8 0) (.int .u8 0) (.int .u8 0) (.int .u8 0) (.int .u8 0) (.int .u8 0) (.int .u8 0))
        show bodyPost _ _ _ _ _ (setE w1 w.heap.size (.int .i64 0) (.int .i64 0) (.int .u64 0) (.int .u8 0) (.int .u8 0) (.int .u8 0) (.int .u8 0) (.int .u8 0) (.int .u8 0) (.int .u8 0) (.int .u8 0))
        clear c0 c1 c2 c3 c4 c5 c6 c7 c8 c9 c10 cf
        generalize setE w1 w.heap.size (.int .i64 0) (.int .i64 0) (.int .u64 0) (.int .u8 0) (.int .u8 0) (.int .u8 0) (.int .u8 0) (.int .u8 0) (.int .u8 0) (.int .u8 0) (.int .u8 0) = w2 at *
        have c0 := HJ.out.c0
        have c1 := HJ.out.c1
        have c2 := HJ.out.c2
        have c3 := HJ.out.c3
        have c4 := HJ.out.c4
        have c5 := HJ.out.c5
        have c6 := HJ.out.c6
        have c7 := HJ.out.c7
        have c8 := HJ.out.c8
        have c9 := HJ.out.c9
        have c10 := HJ.out.c10
        have cf := HJ.out.f
        (try simp only [Exit.inBlock, Exit.then])
        refine bodyPost_ret (v := .tuple #[.agg cz11, .int .u64 0, .int .i64 5]) (by first | (rw [sres_cell_tmp2 rfl]; go_simp; done) | (rw [sres_cell_one rfl]; go_simp; done)) rfl ?_
        exact ⟨by rw [HE1.out (by first | rfl | trivial)]; rfl, HJB.out⟩
      · have HMW := Lib.hid (fun n => (HM3.out.keep HW.out).drewN n)
        go_wp2_with fail
        refine wp_region_drewN_tail 4 (by kernel_rfl) (by kernel_rfl) ?_
        simp only [List.take_succ_cons, List.take_zero, List.drop_succ_cons, List.drop_zero]
        repeat (quiet_step ((go_at_call 34; with_reducible refine (HG3.out _ (HMW.out _)).mono ?_; rintro e w9 ⟨rfl, rfl⟩; exact ⟨rfl, _, rfl⟩)))
        refine wpQuiet_nil ?_
        intro _ hw'
        obtain ⟨nq, hw''⟩ := hw'
        subst hw''
        go_wp2_with fail
        rw [setCell_id HC.out.c0, setCell_id HC.out.c1, setCell_id HC.out.c2, setCell_id HC.out.c3, setCell_id HC.out.c4, setCell_id HC.out.c5, setCell_id HC.out.c6, setCell_id HC.out.c7, setCell_id HC.out.c8, setCell_id HC.out.c9, setCell_id HC.out.c10]
        (try simp only [Exit.inBlock, Exit.then])
        refine bodyPost_ret (v := .tuple #[.agg #[.int .i64 e0.toNat, .int .i64 y1, .int .u64 y2, .int .u8 d0.toNat, .int .u8 d1.toNat, .int .u8 d2.toNat, .int .u8 d3.toNat, .int .u8 d4.toNat, .int .u8 d5.toNat, .int .u8 d6.toNat, .int .u8 d7.toNat], .int .u64 y3, .int .i64 0]) (by first | (rw [sres_cell_tmp2 rfl]; go_simp; done) | (rw [sres_cell_one rfl]; go_simp; done)) rfl ?_
        exact ⟨by rw [HE2.out (by first | rfl | trivial)], below_drewN HW.out _⟩
    · have HE := Lib.hid (dec_sum h37 hs)
      unfold DecP
      rw [HE.out]
      generalize crcN (l.take 29) = x at *
      generalize getL (l.drop 29) = y at *
      have hne : ((y : Int) == (x : Int)) = false := by simp; omega
      clear hat hdl q1 q2
      have HK := Lib.hid hr
      clear hr hd ht
      go_enter Try.func22, Try.ntmps22
      go_wp2_with fail
      have HDN := Lib.hid (fun n => (HD.out.keep (HB0.out cz11)).drewN n)
      have HTN := Lib.hid (fun n => (HT.out.keep (HB0.out cz11)).drewN n)
      go_quiet ((first | (go_at_call 34; exact Calls.quiet_same (HG.out _ (HDN.out _))) | (go_at_call 35; exact Calls.quiet_same (HS.out _ (HTN.out _)))))
      go_wp2_with fail
      show bodyPost _ _ _ _ _ (setE ((w.alloc (.cells cz11 41)).drewN nq) w.heap.size (.int .i64 0) (.int .i64 0) (.int .u64 0) (.int .u8 0) (.int .u8 0) (.int .u8 0) (.int .u8 0) (.int .u8 0) (.int .u8 0) (.int .u8 0) (.int .u8 0))
      rw [setE_new]
      (try simp only [Exit.inBlock, Exit.then])
      refine bodyPost_ret (v := .tuple #[.agg cz11, .int .u64 0, .int .i64 6]) (by first | (rw [sres_cell_tmp2 rfl]; go_simp; done) | (rw [sres_cell_one rfl]; go_simp; done)) rfl ?_
      exact ⟨rfl, below_drewN (HB0.out cz11) _⟩
  · have HE := Lib.hid (dec_long h37)
    have hne : ((l.length : Int) == 37) = false := by simp; omega
    unfold DecP
    rw [HE.out]
    go_enter Try.func22, Try.ntmps22
    go_wp2_with fail
    (try simp only [Exit.inBlock, Exit.then])
    refine bodyPost_ret (v := .tuple #[.agg cz11, .int .u64 0, .int .i64 5]) (by first | (rw [sres_cell_tmp2 rfl]; go_simp; done) | (rw [sres_cell_one rfl]; go_simp; done)) rfl ?_
    exact ⟨rfl, HB0.out _⟩
end Go.Proofs.Ytbiecglooagmmaa
