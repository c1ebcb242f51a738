/-
  The example of the document: its walk.
  Conditions: as the theorem says.
-/
import Derived.Test.YtbiecglooagmmaaScS
namespace Go.Proofs.Ytbiecglooagmmaa
set_option linter.unusedSimpArgs false
set_option linter.unusedVariables false
set_option maxRecDepth 100000
open Go.RowKit

theorem RdY.freeze {w : World} {a : Option Addr} {l : List UInt8} (h : RdY w a l) (g n : Nat) : RdY (w.freeze ⟨g, n, none⟩ 1) a l :=
  ⟨h.1, h.2.imp id fun ⟨b, o, e, hat⟩ => ⟨b, o, e, fun k c hk => (freeze_cell w g n _).trans (hat k c hk)⟩⟩
theorem Aw17.freeze {W0 W : World} {a : Option Addr} {c : Nat} {l : List UInt8} (h : Aw17 W0 W a c l) {g : Nat} (n : Nat) (hg : W0.heap.size ≤ g) : Aw17 W0 (W.freeze ⟨g, n, none⟩ 1) a c l := ⟨h.r.freeze g n, h.le, freeze_below h.b hg⟩
theorem shape_keep {W W' : World} {g : Nat} {p : TypeId × Nat} (h : W.shape? g = some p) (hb : Below W.heap.size W W') : W'.shape? g = some p := by
  have hlt : g < W.heap.size := by
    rcases Nat.lt_or_ge g W.heap.size with h' | h'
    · exact h'
    · simp [World.shape?, Array.getElem?_eq_none h'] at h
  unfold World.shape? at h ⊢
  rw [hb.block g hlt]
  exact h
theorem shape_new (W : World) (t : TypeId) (v : Value) : (W.alloc (.cells #[v] t)).shape? W.heap.size = some (t, 1) := by
  unfold World.shape?
  rw [heap_alloc_new]
  rfl
set_option maxHeartbeats 8000000 in
theorem awake17_any (w : World) : Calls Try.prog 7 #[] w fun e w' => e = .returned (.bool true) ∧ Below w.heap.size w w' := by
  have HB0 := Lib.hid (((Below.refl w.heap.size w).onAlloc (.cells #[.int .i64 3, .int .i64 1, .int .i64 2, .int .i64 2, .int .i64 0] 23)).drew)
  have HS1 := Lib.hid (fun W => sector_any 2 5 1 W (by omega) (by omega) (by omega) (by omega))
  have HS2 := Lib.hid (fun W => sector_any 2 4 2 W (by omega) (by omega) (by omega) (by omega))
  have HL1 := Lib.hid (secL_len 2 5 1)
  have HL2 := Lib.hid (secL_len 2 4 2)
  go_enter Try.func7, Try.ntmps7
  go_upto_region 2 with fail
  have HG : Hid (∀ W', Below (w.alloc (.cells #[.int .i64 3, .int .i64 1, .int .i64 2, .int .i64 2, .int .i64 0] 23)).drew.heap.size (w.alloc (.cells #[.int .i64 3, .int .i64 1, .int .i64 2, .int .i64 2, .int .i64 0] 23)).drew W' → W'.cell? ⟨w.heap.size, 0, none⟩ = some (.int .i64 3) ∧ W'.cell? ⟨w.heap.size, 1, none⟩ = some (.int .i64 1) ∧ W'.cell? ⟨w.heap.size, 2, none⟩ = some (.int .i64 2) ∧ W'.cell? ⟨w.heap.size, 3, none⟩ = some (.int .i64 2) ∧ W'.cell? ⟨w.heap.size, 4, none⟩ = some (.int .i64 0)) :=
    Lib.hid fun W' hb => ⟨hb.keep (by simp), hb.keep (by simp), hb.keep (by simp), hb.keep (by simp), hb.keep (by simp)⟩
  refine wp_region_held_drew (S := (fun W' => W'.cell? ⟨w.heap.size, 0, none⟩ = some (.int .i64 3) ∧ W'.cell? ⟨w.heap.size, 1, none⟩ = some (.int .i64 1) ∧ W'.cell? ⟨w.heap.size, 2, none⟩ = some (.int .i64 2) ∧ W'.cell? ⟨w.heap.size, 3, none⟩ = some (.int .i64 2) ∧ W'.cell? ⟨w.heap.size, 4, none⟩ = some (.int .i64 0))) (by kernel_rfl) (HG.out _ (Below.refl _ _)) (fun hHeld => ?_)
  generalize (w.alloc (.cells #[.int .i64 3, .int .i64 1, .int .i64 2, .int .i64 2, .int .i64 0] 23)).drew = W0 at *
  refine wpAnyH_take (i := 0) (v := ?_) rfl (by kernel_rfl) (by kernel_rfl) (by kernel_rfl) (fun _ _ _ h => h) (Or.inl ⟨by rfl, ?_⟩) (by assumption) ?_
  rotate_left
  · (intro w hSw; (try dsimp only at hSw); go_simp; try with_reducible rfl)
  try simp only [Act.put, List.setIfInBounds_toArray, List.set_cons_zero, List.set_cons_succ]
  refine wpAnyH_ready (rs := [1, 3]) (by kernel_rfl) (by simp) ?_
  refine AllReadyH.cons rfl (fun K hK => ?_) (AllReadyH.cons rfl (fun K hK => ?_) AllReadyH.nil)
  · go_simp
    refine (HS1.out _).mono ?_
    rintro e w1 ⟨v, rfl, ho, hb⟩
    obtain ⟨a1, c1, rfl, h1⟩ := Aw17.of (Below.refl _ _) ho hb (by rw [HL1.out]; omega)
    have HA1 := Lib.hid h1
    try replace HX := Lib.hid (HX.out.on hb)
    try replace HSH := Lib.hid (shape_keep HSH.out hb)
    clear ho hb h1
    refine hK.out _ _ (HG.out _ HA1.out.b) (fun hHeld => ?_)
    clear hK K
    try simp only [Act.put, List.setIfInBounds_toArray, List.set_cons_zero, List.set_cons_succ]
    refine wpAnyH_ready (rs := [2, 3]) (by kernel_rfl) (by simp) ?_
    refine AllReadyH.cons rfl (fun K hK => ?_) (AllReadyH.cons rfl (fun K hK => ?_) AllReadyH.nil)
    · go_simp
      refine (HS2.out _).mono ?_
      rintro e w2 ⟨v, rfl, ho, hb⟩
      obtain ⟨a2, c2, rfl, h2⟩ := Aw17.of HA1.out.b ho hb (by rw [HL2.out]; omega)
      have HA2 := Lib.hid h2
      replace HA1 := Lib.hid (HA1.out.on hb)
      try replace HX := Lib.hid (HX.out.on hb)
      try replace HSH := Lib.hid (shape_keep HSH.out hb)
      clear ho hb h2
      refine hK.out _ _ (HG.out _ HA2.out.b) (fun hHeld => ?_)
      clear hK K
      try simp only [Act.put, List.setIfInBounds_toArray, List.set_cons_zero, List.set_cons_succ]
      refine wpAnyH_ready (rs := [3]) (by kernel_rfl) (by simp) ?_
      refine AllReadyH.cons rfl (fun K hK => ?_) AllReadyH.nil
      go_simp
      have hk := (Below.refl (w2).heap.size (w2)).onAlloc (.cells #[.int .u8 120] 5)
      have HX : Hid (Aw17 W0 ((w2).alloc (.cells #[.int .u8 120] 5)) (some ⟨(w2).heap.size, 0, none⟩) 1 [120]) := Lib.hid (by
        obtain ⟨_, _, hv, _, _, hrd⟩ := (OwnY.one (w2) (w2).heap.size (Nat.le_refl _) 120).rd (by simp)
        injection hv with hv1 hv2 hv3
        subst hv1 hv3
        exact ⟨hrd, by simp, (HA2.out.b).on hk⟩)
      have HSH : Hid (((w2).alloc (.cells #[.int .u8 120] 5)).shape? (w2).heap.size = some (5, 1)) := Lib.hid (shape_new (w2) _ _)
      have HXB : Hid (W0.heap.size ≤ (w2).heap.size) := Lib.hid ((HA2.out.b).size)
      try replace HA1 := Lib.hid (HA1.out.on hk)
      try replace HA2 := Lib.hid (HA2.out.on hk)
      clear hk
      refine hK.out _ _ (HG.out _ HX.out.b) (fun hHeld => ?_)
      clear hK K
      try simp only [Act.put, List.setIfInBounds_toArray, List.set_cons_zero, List.set_cons_succ]
      have hcm := conv_mark HSH.out 1 1
      refine wpAnyH_ready (rs := [4]) (by kernel_rfl) (by simp) ?_
      refine AllReadyH.cons rfl (fun K hK => ?_) AllReadyH.nil
      go_simp
      replace HX := Lib.hid (HX.out.freeze 1 HXB.out)
      try replace HA1 := Lib.hid (HA1.out.freeze 1 HXB.out)
      try replace HA2 := Lib.hid (HA2.out.freeze 1 HXB.out)
      clear hcm HSH
      refine hK.out _ _ (HG.out _ HX.out.b) (fun hHeld => ?_)
      clear hK K
      try simp only [Act.put, List.setIfInBounds_toArray, List.set_cons_zero, List.set_cons_succ]
      obtain ⟨p1, o1, rfl, _⟩ := HA1.out.r.at (by rw [HL1.out]; omega)
      obtain ⟨p2, o2, rfl, _⟩ := HA2.out.r.at (by rw [HL2.out]; omega)
      have hk := (Below.refl ((w2.alloc (.cells #[.int .u8 120] 5)).freeze ⟨w2.heap.size, 1, none⟩ 1).heap.size ((w2.alloc (.cells #[.int .u8 120] 5)).freeze ⟨w2.heap.size, 1, none⟩ 1)).onAlloc (.cells #[.slice (some ⟨p1, o1, none⟩) (secL 2 5 1).length c1, .slice none 0 0, .slice (some ⟨p2, o2, none⟩) (secL 2 4 2).length c2, .slice (some ⟨w2.heap.size, 0, none⟩) 1 1] 36)
      have HZ : Hid (RdZ (((w2.alloc (.cells #[.int .u8 120] 5)).freeze ⟨w2.heap.size, 1, none⟩ 1).alloc (.cells #[.slice (some ⟨p1, o1, none⟩) (secL 2 5 1).length c1, .slice none 0 0, .slice (some ⟨p2, o2, none⟩) (secL 2 4 2).length c2, .slice (some ⟨w2.heap.size, 0, none⟩) 1 1] 36)) (some ⟨((w2.alloc (.cells #[.int .u8 120] 5)).freeze ⟨w2.heap.size, 1, none⟩ 1).heap.size, 0, none⟩) [⟨some ⟨p1, o1, none⟩, c1, secL 2 5 1⟩, ⟨none, 0, []⟩, ⟨some ⟨p2, o2, none⟩, c2, secL 2 4 2⟩, ⟨some ⟨w2.heap.size, 0, none⟩, 1, [120]⟩]) := Lib.hid (by
        refine ⟨fun s hs => ?_, by simp, .inr ⟨((w2.alloc (.cells #[.int .u8 120] 5)).freeze ⟨w2.heap.size, 1, none⟩ 1).heap.size, 0, rfl, fun k s hk2 => ?_⟩⟩
        · simp only [List.mem_cons, List.not_mem_nil, or_false] at hs
          rcases hs with rfl | rfl | rfl | rfl
          · exact ⟨(HA1.out.on hk).r, HA1.out.le⟩
          · exact ⟨RdY.nil _, by simp⟩
          · exact ⟨(HA2.out.on hk).r, HA2.out.le⟩
          · exact ⟨(HX.out.on hk).r, HX.out.le⟩
        · rw [Nat.zero_add, World.cell?_alloc_new]
          match k with
          | 0 => simp at hk2; subst hk2; rfl
          | 1 => simp at hk2; subst hk2; rfl
          | 2 => simp at hk2; subst hk2; rfl
          | 3 => simp at hk2; subst hk2; rfl
          | k + 4 => simp at hk2)
      refine wpAnyH_ready (rs := [5]) (by kernel_rfl) (by simp) ?_
      refine AllReadyH.cons rfl (fun K hK => ?_) AllReadyH.nil
      go_simp
      go_simp
      have HBK := Lib.hid (HA1.out.b.on hk)
      refine hK.out _ _ (HG.out _ HBK.out) (fun hHeld => ?_)
      clear hK K
      try simp only [Act.put, List.setIfInBounds_toArray, List.set_cons_zero, List.set_cons_succ]
      refine wpAnyH_ready (rs := [6]) (by kernel_rfl) (by simp) ?_
      refine AllReadyH.cons rfl (fun K hK => ?_) AllReadyH.nil
      go_simp
      refine (pscan_yes ⟨3, 1, 2, 2, 0⟩ 1 4 8 [⟨some ⟨p1, o1, none⟩, c1, secL 2 5 1⟩, ⟨none, 0, []⟩, ⟨some ⟨p2, o2, none⟩, c2, secL 2 4 2⟩, ⟨some ⟨w2.heap.size, 0, none⟩, 1, [120]⟩] (some ⟨((w2.alloc (.cells #[.int .u8 120] 5)).freeze ⟨w2.heap.size, 1, none⟩ 1).heap.size, 0, none⟩) 4 _ (by decide) rfl (by decide) HZ.out (by simp)).mono ?_
      rintro e w9 ⟨fv, G, rfl, ho, hbd, _, _, hb⟩
      change OwnF w9 _ fv 3 (foundP 8 [secL 2 5 1, [], secL 2 4 2, [120]] 4 (capN 8)) at ho
      change BdR w9 G (liveP 4 (bandsK 8 4 1 [⟨false, secL 2 5 1⟩, ⟨true, []⟩, ⟨false, secL 2 4 2⟩, ⟨false, [120]⟩] 4) (foundP 8 [secL 2 5 1, [], secL 2 4 2, [120]] 4 (capN 8))) at hbd
      rw [aw_found] at ho hbd
      rw [aw_bands _ _ _ _ rfl rfl rfl rfl] at hbd
      have HB9 := Lib.hid (HBK.out.on hb)
      obtain ⟨fa, fc, rfl, hfd⟩ := ho.rd (by simp)
      have HFD := Lib.hid hfd
      have HBD := Lib.hid hbd
      clear ho hbd hfd hb hk HA1 HA2 HX HZ
      refine hK.out _ _ (HG.out _ HB9.out) (fun hHeld => ?_)
      clear hK K
      try simp only [Act.put, List.setIfInBounds_toArray, List.set_cons_zero, List.set_cons_succ]
      refine wpAnyH_take (i := 7) (v := ?_) rfl (by kernel_rfl) (by kernel_rfl) (by kernel_rfl) (fun _ _ _ h => h) (Or.inl ⟨by rfl, ?_⟩) (by assumption) ?_
      rotate_left
      · (intro w hSw; (try dsimp only at hSw); go_simp; try with_reducible rfl)
      try simp only [Act.put, List.setIfInBounds_toArray, List.set_cons_zero, List.set_cons_succ]
      refine wpAnyH_take (i := 8) (v := ?_) rfl (by kernel_rfl) (by kernel_rfl) (by kernel_rfl) (fun _ _ _ h => h) (Or.inl ⟨by rfl, ?_⟩) (by assumption) ?_
      rotate_left
      · (intro w hSw; (try dsimp only at hSw); go_simp; try with_reducible rfl)
      try simp only [Act.put, List.setIfInBounds_toArray, List.set_cons_zero, List.set_cons_succ]
      refine wpAnyH_take (i := 9) (v := ?_) rfl (by kernel_rfl) (by kernel_rfl) (by kernel_rfl) (fun _ _ _ h => h) (Or.inl ⟨by rfl, ?_⟩) (by assumption) ?_
      rotate_left
      · (intro w hSw; (try dsimp only at hSw); go_simp; try with_reducible rfl)
      try simp only [Act.put, List.setIfInBounds_toArray, List.set_cons_zero, List.set_cons_succ]
      refine wpAnyH_take (i := 10) (v := ?_) rfl (by kernel_rfl) (by kernel_rfl) (by kernel_rfl) (fun _ _ _ h => h) (Or.inl ⟨by rfl, ?_⟩) (by assumption) ?_
      rotate_left
      · (intro w hSw; (try dsimp only at hSw); go_simp; try with_reducible rfl)
      try simp only [Act.put, List.setIfInBounds_toArray, List.set_cons_zero, List.set_cons_succ]
      refine wpAnyH_take (i := 11) (v := ?_) rfl (by kernel_rfl) (by kernel_rfl) (by kernel_rfl) (fun _ _ _ h => h) (Or.inl ⟨by rfl, ?_⟩) (by assumption) ?_
      rotate_left
      · (intro w hSw; (try dsimp only at hSw); go_simp; try with_reducible rfl)
      try simp only [Act.put, List.setIfInBounds_toArray, List.set_cons_zero, List.set_cons_succ]
      simp only [Act.put, List.getElem_toArray, List.getElem_cons_succ, List.getElem_cons_zero, List.setIfInBounds_toArray, List.set_cons_zero, List.set_cons_succ]
      refine wpAnyH_done (by kernel_rfl) ?_ _
      obtain ⟨fb, rfl, hat⟩ := HFD.out.2.resolve_left (by simp)
      have f1 : w9.cell? ⟨fb, 2, none⟩ = some (.int .u64 5) := hat 0 awC rfl 2 _ rfl
      have f2 : w9.cell? ⟨fb, 11, none⟩ = some (.int .i64 3) := hat 0 awC rfl 11 _ rfl
      have b0 : w9.cell? ⟨G, 0, none⟩ = some (.int .i64 4) := (HBD.out.at_ 0 _ rfl).c0
      have b1 : w9.cell? ⟨G, 1, none⟩ = some (.int .i64 1) := (HBD.out.at_ 0 _ rfl).c1
      have b2 : w9.cell? ⟨G, 2, none⟩ = some (.int .u64 2) := (HBD.out.at_ 0 _ rfl).c2
      have b3 : w9.cell? ⟨G, 3, none⟩ = some (.int .u64 0) := (HBD.out.at_ 0 _ rfl).c3
      clear hat
      go_wp2_with fail
      go_ret
      exact ⟨rfl, HB0.out.on HB9.out⟩
    · go_simp
      have hk := (Below.refl (w1).heap.size (w1)).onAlloc (.cells #[.int .u8 120] 5)
      have HX : Hid (Aw17 W0 ((w1).alloc (.cells #[.int .u8 120] 5)) (some ⟨(w1).heap.size, 0, none⟩) 1 [120]) := Lib.hid (by
        obtain ⟨_, _, hv, _, _, hrd⟩ := (OwnY.one (w1) (w1).heap.size (Nat.le_refl _) 120).rd (by simp)
        injection hv with hv1 hv2 hv3
        subst hv1 hv3
        exact ⟨hrd, by simp, (HA1.out.b).on hk⟩)
      have HSH : Hid (((w1).alloc (.cells #[.int .u8 120] 5)).shape? (w1).heap.size = some (5, 1)) := Lib.hid (shape_new (w1) _ _)
      have HXB : Hid (W0.heap.size ≤ (w1).heap.size) := Lib.hid ((HA1.out.b).size)
      try replace HA1 := Lib.hid (HA1.out.on hk)
      try replace HA2 := Lib.hid (HA2.out.on hk)
      clear hk
      refine hK.out _ _ (HG.out _ HX.out.b) (fun hHeld => ?_)
      clear hK K
      try simp only [Act.put, List.setIfInBounds_toArray, List.set_cons_zero, List.set_cons_succ]
      refine wpAnyH_ready (rs := [2, 4]) (by kernel_rfl) (by simp) ?_
      refine AllReadyH.cons rfl (fun K hK => ?_) (AllReadyH.cons rfl (fun K hK => ?_) AllReadyH.nil)
      · go_simp
        refine (HS2.out _).mono ?_
        rintro e w2 ⟨v, rfl, ho, hb⟩
        obtain ⟨a2, c2, rfl, h2⟩ := Aw17.of HA1.out.b ho hb (by rw [HL2.out]; omega)
        have HA2 := Lib.hid h2
        replace HA1 := Lib.hid (HA1.out.on hb)
        try replace HX := Lib.hid (HX.out.on hb)
        try replace HSH := Lib.hid (shape_keep HSH.out hb)
        clear ho hb h2
        refine hK.out _ _ (HG.out _ HA2.out.b) (fun hHeld => ?_)
        clear hK K
        try simp only [Act.put, List.setIfInBounds_toArray, List.set_cons_zero, List.set_cons_succ]
        have hcm := conv_mark HSH.out 1 1
        refine wpAnyH_ready (rs := [4]) (by kernel_rfl) (by simp) ?_
        refine AllReadyH.cons rfl (fun K hK => ?_) AllReadyH.nil
        go_simp
        replace HX := Lib.hid (HX.out.freeze 1 HXB.out)
        try replace HA1 := Lib.hid (HA1.out.freeze 1 HXB.out)
        try replace HA2 := Lib.hid (HA2.out.freeze 1 HXB.out)
        clear hcm HSH
        refine hK.out _ _ (HG.out _ HX.out.b) (fun hHeld => ?_)
        clear hK K
        try simp only [Act.put, List.setIfInBounds_toArray, List.set_cons_zero, List.set_cons_succ]
        obtain ⟨p1, o1, rfl, _⟩ := HA1.out.r.at (by rw [HL1.out]; omega)
        obtain ⟨p2, o2, rfl, _⟩ := HA2.out.r.at (by rw [HL2.out]; omega)
        have hk := (Below.refl (w2.freeze ⟨w1.heap.size, 1, none⟩ 1).heap.size (w2.freeze ⟨w1.heap.size, 1, none⟩ 1)).onAlloc (.cells #[.slice (some ⟨p1, o1, none⟩) (secL 2 5 1).length c1, .slice none 0 0, .slice (some ⟨p2, o2, none⟩) (secL 2 4 2).length c2, .slice (some ⟨w1.heap.size, 0, none⟩) 1 1] 36)
        have HZ : Hid (RdZ ((w2.freeze ⟨w1.heap.size, 1, none⟩ 1).alloc (.cells #[.slice (some ⟨p1, o1, none⟩) (secL 2 5 1).length c1, .slice none 0 0, .slice (some ⟨p2, o2, none⟩) (secL 2 4 2).length c2, .slice (some ⟨w1.heap.size, 0, none⟩) 1 1] 36)) (some ⟨(w2.freeze ⟨w1.heap.size, 1, none⟩ 1).heap.size, 0, none⟩) [⟨some ⟨p1, o1, none⟩, c1, secL 2 5 1⟩, ⟨none, 0, []⟩, ⟨some ⟨p2, o2, none⟩, c2, secL 2 4 2⟩, ⟨some ⟨w1.heap.size, 0, none⟩, 1, [120]⟩]) := Lib.hid (by
          refine ⟨fun s hs => ?_, by simp, .inr ⟨(w2.freeze ⟨w1.heap.size, 1, none⟩ 1).heap.size, 0, rfl, fun k s hk2 => ?_⟩⟩
          · simp only [List.mem_cons, List.not_mem_nil, or_false] at hs
            rcases hs with rfl | rfl | rfl | rfl
            · exact ⟨(HA1.out.on hk).r, HA1.out.le⟩
            · exact ⟨RdY.nil _, by simp⟩
            · exact ⟨(HA2.out.on hk).r, HA2.out.le⟩
            · exact ⟨(HX.out.on hk).r, HX.out.le⟩
          · rw [Nat.zero_add, World.cell?_alloc_new]
            match k with
            | 0 => simp at hk2; subst hk2; rfl
            | 1 => simp at hk2; subst hk2; rfl
            | 2 => simp at hk2; subst hk2; rfl
            | 3 => simp at hk2; subst hk2; rfl
            | k + 4 => simp at hk2)
        refine wpAnyH_ready (rs := [5]) (by kernel_rfl) (by simp) ?_
        refine AllReadyH.cons rfl (fun K hK => ?_) AllReadyH.nil
        go_simp
        go_simp
        have HBK := Lib.hid (HA1.out.b.on hk)
        refine hK.out _ _ (HG.out _ HBK.out) (fun hHeld => ?_)
        clear hK K
        try simp only [Act.put, List.setIfInBounds_toArray, List.set_cons_zero, List.set_cons_succ]
        refine wpAnyH_ready (rs := [6]) (by kernel_rfl) (by simp) ?_
        refine AllReadyH.cons rfl (fun K hK => ?_) AllReadyH.nil
        go_simp
        refine (pscan_yes ⟨3, 1, 2, 2, 0⟩ 1 4 8 [⟨some ⟨p1, o1, none⟩, c1, secL 2 5 1⟩, ⟨none, 0, []⟩, ⟨some ⟨p2, o2, none⟩, c2, secL 2 4 2⟩, ⟨some ⟨w1.heap.size, 0, none⟩, 1, [120]⟩] (some ⟨(w2.freeze ⟨w1.heap.size, 1, none⟩ 1).heap.size, 0, none⟩) 4 _ (by decide) rfl (by decide) HZ.out (by simp)).mono ?_
        rintro e w9 ⟨fv, G, rfl, ho, hbd, _, _, hb⟩
        change OwnF w9 _ fv 3 (foundP 8 [secL 2 5 1, [], secL 2 4 2, [120]] 4 (capN 8)) at ho
        change BdR w9 G (liveP 4 (bandsK 8 4 1 [⟨false, secL 2 5 1⟩, ⟨true, []⟩, ⟨false, secL 2 4 2⟩, ⟨false, [120]⟩] 4) (foundP 8 [secL 2 5 1, [], secL 2 4 2, [120]] 4 (capN 8))) at hbd
        rw [aw_found] at ho hbd
        rw [aw_bands _ _ _ _ rfl rfl rfl rfl] at hbd
        have HB9 := Lib.hid (HBK.out.on hb)
        obtain ⟨fa, fc, rfl, hfd⟩ := ho.rd (by simp)
        have HFD := Lib.hid hfd
        have HBD := Lib.hid hbd
        clear ho hbd hfd hb hk HA1 HA2 HX HZ
        refine hK.out _ _ (HG.out _ HB9.out) (fun hHeld => ?_)
        clear hK K
        try simp only [Act.put, List.setIfInBounds_toArray, List.set_cons_zero, List.set_cons_succ]
        refine wpAnyH_take (i := 7) (v := ?_) rfl (by kernel_rfl) (by kernel_rfl) (by kernel_rfl) (fun _ _ _ h => h) (Or.inl ⟨by rfl, ?_⟩) (by assumption) ?_
        rotate_left
        · (intro w hSw; (try dsimp only at hSw); go_simp; try with_reducible rfl)
        try simp only [Act.put, List.setIfInBounds_toArray, List.set_cons_zero, List.set_cons_succ]
        refine wpAnyH_take (i := 8) (v := ?_) rfl (by kernel_rfl) (by kernel_rfl) (by kernel_rfl) (fun _ _ _ h => h) (Or.inl ⟨by rfl, ?_⟩) (by assumption) ?_
        rotate_left
        · (intro w hSw; (try dsimp only at hSw); go_simp; try with_reducible rfl)
        try simp only [Act.put, List.setIfInBounds_toArray, List.set_cons_zero, List.set_cons_succ]
        refine wpAnyH_take (i := 9) (v := ?_) rfl (by kernel_rfl) (by kernel_rfl) (by kernel_rfl) (fun _ _ _ h => h) (Or.inl ⟨by rfl, ?_⟩) (by assumption) ?_
        rotate_left
        · (intro w hSw; (try dsimp only at hSw); go_simp; try with_reducible rfl)
        try simp only [Act.put, List.setIfInBounds_toArray, List.set_cons_zero, List.set_cons_succ]
        refine wpAnyH_take (i := 10) (v := ?_) rfl (by kernel_rfl) (by kernel_rfl) (by kernel_rfl) (fun _ _ _ h => h) (Or.inl ⟨by rfl, ?_⟩) (by assumption) ?_
        rotate_left
        · (intro w hSw; (try dsimp only at hSw); go_simp; try with_reducible rfl)
        try simp only [Act.put, List.setIfInBounds_toArray, List.set_cons_zero, List.set_cons_succ]
        refine wpAnyH_take (i := 11) (v := ?_) rfl (by kernel_rfl) (by kernel_rfl) (by kernel_rfl) (fun _ _ _ h => h) (Or.inl ⟨by rfl, ?_⟩) (by assumption) ?_
        rotate_left
        · (intro w hSw; (try dsimp only at hSw); go_simp; try with_reducible rfl)
        try simp only [Act.put, List.setIfInBounds_toArray, List.set_cons_zero, List.set_cons_succ]
        simp only [Act.put, List.getElem_toArray, List.getElem_cons_succ, List.getElem_cons_zero, List.setIfInBounds_toArray, List.set_cons_zero, List.set_cons_succ]
        refine wpAnyH_done (by kernel_rfl) ?_ _
        obtain ⟨fb, rfl, hat⟩ := HFD.out.2.resolve_left (by simp)
        have f1 : w9.cell? ⟨fb, 2, none⟩ = some (.int .u64 5) := hat 0 awC rfl 2 _ rfl
        have f2 : w9.cell? ⟨fb, 11, none⟩ = some (.int .i64 3) := hat 0 awC rfl 11 _ rfl
        have b0 : w9.cell? ⟨G, 0, none⟩ = some (.int .i64 4) := (HBD.out.at_ 0 _ rfl).c0
        have b1 : w9.cell? ⟨G, 1, none⟩ = some (.int .i64 1) := (HBD.out.at_ 0 _ rfl).c1
        have b2 : w9.cell? ⟨G, 2, none⟩ = some (.int .u64 2) := (HBD.out.at_ 0 _ rfl).c2
        have b3 : w9.cell? ⟨G, 3, none⟩ = some (.int .u64 0) := (HBD.out.at_ 0 _ rfl).c3
        clear hat
        go_wp2_with fail
        go_ret
        exact ⟨rfl, HB0.out.on HB9.out⟩
      · have hcm := conv_mark HSH.out 1 1
        go_simp
        replace HX := Lib.hid (HX.out.freeze 1 HXB.out)
        try replace HA1 := Lib.hid (HA1.out.freeze 1 HXB.out)
        try replace HA2 := Lib.hid (HA2.out.freeze 1 HXB.out)
        clear hcm HSH
        refine hK.out _ _ (HG.out _ HX.out.b) (fun hHeld => ?_)
        clear hK K
        try simp only [Act.put, List.setIfInBounds_toArray, List.set_cons_zero, List.set_cons_succ]
        refine wpAnyH_ready (rs := [2]) (by kernel_rfl) (by simp) ?_
        refine AllReadyH.cons rfl (fun K hK => ?_) AllReadyH.nil
        go_simp
        refine (HS2.out _).mono ?_
        rintro e w2 ⟨v, rfl, ho, hb⟩
        obtain ⟨a2, c2, rfl, h2⟩ := Aw17.of HA1.out.b ho hb (by rw [HL2.out]; omega)
        have HA2 := Lib.hid h2
        replace HA1 := Lib.hid (HA1.out.on hb)
        try replace HX := Lib.hid (HX.out.on hb)
        try replace HSH := Lib.hid (shape_keep HSH.out hb)
        clear ho hb h2
        refine hK.out _ _ (HG.out _ HA2.out.b) (fun hHeld => ?_)
        clear hK K
        try simp only [Act.put, List.setIfInBounds_toArray, List.set_cons_zero, List.set_cons_succ]
        obtain ⟨p1, o1, rfl, _⟩ := HA1.out.r.at (by rw [HL1.out]; omega)
        obtain ⟨p2, o2, rfl, _⟩ := HA2.out.r.at (by rw [HL2.out]; omega)
        have hk := (Below.refl (w2).heap.size (w2)).onAlloc (.cells #[.slice (some ⟨p1, o1, none⟩) (secL 2 5 1).length c1, .slice none 0 0, .slice (some ⟨p2, o2, none⟩) (secL 2 4 2).length c2, .slice (some ⟨w1.heap.size, 0, none⟩) 1 1] 36)
        have HZ : Hid (RdZ ((w2).alloc (.cells #[.slice (some ⟨p1, o1, none⟩) (secL 2 5 1).length c1, .slice none 0 0, .slice (some ⟨p2, o2, none⟩) (secL 2 4 2).length c2, .slice (some ⟨w1.heap.size, 0, none⟩) 1 1] 36)) (some ⟨(w2).heap.size, 0, none⟩) [⟨some ⟨p1, o1, none⟩, c1, secL 2 5 1⟩, ⟨none, 0, []⟩, ⟨some ⟨p2, o2, none⟩, c2, secL 2 4 2⟩, ⟨some ⟨w1.heap.size, 0, none⟩, 1, [120]⟩]) := Lib.hid (by
          refine ⟨fun s hs => ?_, by simp, .inr ⟨(w2).heap.size, 0, rfl, fun k s hk2 => ?_⟩⟩
          · simp only [List.mem_cons, List.not_mem_nil, or_false] at hs
            rcases hs with rfl | rfl | rfl | rfl
            · exact ⟨(HA1.out.on hk).r, HA1.out.le⟩
            · exact ⟨RdY.nil _, by simp⟩
            · exact ⟨(HA2.out.on hk).r, HA2.out.le⟩
            · exact ⟨(HX.out.on hk).r, HX.out.le⟩
          · rw [Nat.zero_add, World.cell?_alloc_new]
            match k with
            | 0 => simp at hk2; subst hk2; rfl
            | 1 => simp at hk2; subst hk2; rfl
            | 2 => simp at hk2; subst hk2; rfl
            | 3 => simp at hk2; subst hk2; rfl
            | k + 4 => simp at hk2)
        refine wpAnyH_ready (rs := [5]) (by kernel_rfl) (by simp) ?_
        refine AllReadyH.cons rfl (fun K hK => ?_) AllReadyH.nil
        go_simp
        go_simp
        have HBK := Lib.hid (HA1.out.b.on hk)
        refine hK.out _ _ (HG.out _ HBK.out) (fun hHeld => ?_)
        clear hK K
        try simp only [Act.put, List.setIfInBounds_toArray, List.set_cons_zero, List.set_cons_succ]
        refine wpAnyH_ready (rs := [6]) (by kernel_rfl) (by simp) ?_
        refine AllReadyH.cons rfl (fun K hK => ?_) AllReadyH.nil
        go_simp
        refine (pscan_yes ⟨3, 1, 2, 2, 0⟩ 1 4 8 [⟨some ⟨p1, o1, none⟩, c1, secL 2 5 1⟩, ⟨none, 0, []⟩, ⟨some ⟨p2, o2, none⟩, c2, secL 2 4 2⟩, ⟨some ⟨w1.heap.size, 0, none⟩, 1, [120]⟩] (some ⟨(w2).heap.size, 0, none⟩) 4 _ (by decide) rfl (by decide) HZ.out (by simp)).mono ?_
        rintro e w9 ⟨fv, G, rfl, ho, hbd, _, _, hb⟩
        change OwnF w9 _ fv 3 (foundP 8 [secL 2 5 1, [], secL 2 4 2, [120]] 4 (capN 8)) at ho
        change BdR w9 G (liveP 4 (bandsK 8 4 1 [⟨false, secL 2 5 1⟩, ⟨true, []⟩, ⟨false, secL 2 4 2⟩, ⟨false, [120]⟩] 4) (foundP 8 [secL 2 5 1, [], secL 2 4 2, [120]] 4 (capN 8))) at hbd
        rw [aw_found] at ho hbd
        rw [aw_bands _ _ _ _ rfl rfl rfl rfl] at hbd
        have HB9 := Lib.hid (HBK.out.on hb)
        obtain ⟨fa, fc, rfl, hfd⟩ := ho.rd (by simp)
        have HFD := Lib.hid hfd
        have HBD := Lib.hid hbd
        clear ho hbd hfd hb hk HA1 HA2 HX HZ
        refine hK.out _ _ (HG.out _ HB9.out) (fun hHeld => ?_)
        clear hK K
        try simp only [Act.put, List.setIfInBounds_toArray, List.set_cons_zero, List.set_cons_succ]
        refine wpAnyH_take (i := 7) (v := ?_) rfl (by kernel_rfl) (by kernel_rfl) (by kernel_rfl) (fun _ _ _ h => h) (Or.inl ⟨by rfl, ?_⟩) (by assumption) ?_
        rotate_left
        · (intro w hSw; (try dsimp only at hSw); go_simp; try with_reducible rfl)
        try simp only [Act.put, List.setIfInBounds_toArray, List.set_cons_zero, List.set_cons_succ]
        refine wpAnyH_take (i := 8) (v := ?_) rfl (by kernel_rfl) (by kernel_rfl) (by kernel_rfl) (fun _ _ _ h => h) (Or.inl ⟨by rfl, ?_⟩) (by assumption) ?_
        rotate_left
        · (intro w hSw; (try dsimp only at hSw); go_simp; try with_reducible rfl)
        try simp only [Act.put, List.setIfInBounds_toArray, List.set_cons_zero, List.set_cons_succ]
        refine wpAnyH_take (i := 9) (v := ?_) rfl (by kernel_rfl) (by kernel_rfl) (by kernel_rfl) (fun _ _ _ h => h) (Or.inl ⟨by rfl, ?_⟩) (by assumption) ?_
        rotate_left
        · (intro w hSw; (try dsimp only at hSw); go_simp; try with_reducible rfl)
        try simp only [Act.put, List.setIfInBounds_toArray, List.set_cons_zero, List.set_cons_succ]
        refine wpAnyH_take (i := 10) (v := ?_) rfl (by kernel_rfl) (by kernel_rfl) (by kernel_rfl) (fun _ _ _ h => h) (Or.inl ⟨by rfl, ?_⟩) (by assumption) ?_
        rotate_left
        · (intro w hSw; (try dsimp only at hSw); go_simp; try with_reducible rfl)
        try simp only [Act.put, List.setIfInBounds_toArray, List.set_cons_zero, List.set_cons_succ]
        refine wpAnyH_take (i := 11) (v := ?_) rfl (by kernel_rfl) (by kernel_rfl) (by kernel_rfl) (fun _ _ _ h => h) (Or.inl ⟨by rfl, ?_⟩) (by assumption) ?_
        rotate_left
        · (intro w hSw; (try dsimp only at hSw); go_simp; try with_reducible rfl)
        try simp only [Act.put, List.setIfInBounds_toArray, List.set_cons_zero, List.set_cons_succ]
        simp only [Act.put, List.getElem_toArray, List.getElem_cons_succ, List.getElem_cons_zero, List.setIfInBounds_toArray, List.set_cons_zero, List.set_cons_succ]
        refine wpAnyH_done (by kernel_rfl) ?_ _
        obtain ⟨fb, rfl, hat⟩ := HFD.out.2.resolve_left (by simp)
        have f1 : w9.cell? ⟨fb, 2, none⟩ = some (.int .u64 5) := hat 0 awC rfl 2 _ rfl
        have f2 : w9.cell? ⟨fb, 11, none⟩ = some (.int .i64 3) := hat 0 awC rfl 11 _ rfl
        have b0 : w9.cell? ⟨G, 0, none⟩ = some (.int .i64 4) := (HBD.out.at_ 0 _ rfl).c0
        have b1 : w9.cell? ⟨G, 1, none⟩ = some (.int .i64 1) := (HBD.out.at_ 0 _ rfl).c1
        have b2 : w9.cell? ⟨G, 2, none⟩ = some (.int .u64 2) := (HBD.out.at_ 0 _ rfl).c2
        have b3 : w9.cell? ⟨G, 3, none⟩ = some (.int .u64 0) := (HBD.out.at_ 0 _ rfl).c3
        clear hat
        go_wp2_with fail
        go_ret
        exact ⟨rfl, HB0.out.on HB9.out⟩
  · go_simp
    have hk := (Below.refl (W0).heap.size (W0)).onAlloc (.cells #[.int .u8 120] 5)
    have HX : Hid (Aw17 W0 ((W0).alloc (.cells #[.int .u8 120] 5)) (some ⟨(W0).heap.size, 0, none⟩) 1 [120]) := Lib.hid (by
      obtain ⟨_, _, hv, _, _, hrd⟩ := (OwnY.one (W0) (W0).heap.size (Nat.le_refl _) 120).rd (by simp)
      injection hv with hv1 hv2 hv3
      subst hv1 hv3
      exact ⟨hrd, by simp, (Below.refl W0.heap.size W0).on hk⟩)
    have HSH : Hid (((W0).alloc (.cells #[.int .u8 120] 5)).shape? (W0).heap.size = some (5, 1)) := Lib.hid (shape_new (W0) _ _)
    have HXB : Hid (W0.heap.size ≤ (W0).heap.size) := Lib.hid ((Below.refl W0.heap.size W0).size)
    try replace HA1 := Lib.hid (HA1.out.on hk)
    try replace HA2 := Lib.hid (HA2.out.on hk)
    clear hk
    refine hK.out _ _ (HG.out _ HX.out.b) (fun hHeld => ?_)
    clear hK K
    try simp only [Act.put, List.setIfInBounds_toArray, List.set_cons_zero, List.set_cons_succ]
    refine wpAnyH_ready (rs := [1, 4]) (by kernel_rfl) (by simp) ?_
    refine AllReadyH.cons rfl (fun K hK => ?_) (AllReadyH.cons rfl (fun K hK => ?_) AllReadyH.nil)
    · go_simp
      refine (HS1.out _).mono ?_
      rintro e w1 ⟨v, rfl, ho, hb⟩
      obtain ⟨a1, c1, rfl, h1⟩ := Aw17.of (HX.out.b) ho hb (by rw [HL1.out]; omega)
      have HA1 := Lib.hid h1
      try replace HX := Lib.hid (HX.out.on hb)
      try replace HSH := Lib.hid (shape_keep HSH.out hb)
      clear ho hb h1
      refine hK.out _ _ (HG.out _ HA1.out.b) (fun hHeld => ?_)
      clear hK K
      try simp only [Act.put, List.setIfInBounds_toArray, List.set_cons_zero, List.set_cons_succ]
      refine wpAnyH_ready (rs := [2, 4]) (by kernel_rfl) (by simp) ?_
      refine AllReadyH.cons rfl (fun K hK => ?_) (AllReadyH.cons rfl (fun K hK => ?_) AllReadyH.nil)
      · go_simp
        refine (HS2.out _).mono ?_
        rintro e w2 ⟨v, rfl, ho, hb⟩
        obtain ⟨a2, c2, rfl, h2⟩ := Aw17.of HA1.out.b ho hb (by rw [HL2.out]; omega)
        have HA2 := Lib.hid h2
        replace HA1 := Lib.hid (HA1.out.on hb)
        try replace HX := Lib.hid (HX.out.on hb)
        try replace HSH := Lib.hid (shape_keep HSH.out hb)
        clear ho hb h2
        refine hK.out _ _ (HG.out _ HA2.out.b) (fun hHeld => ?_)
        clear hK K
        try simp only [Act.put, List.setIfInBounds_toArray, List.set_cons_zero, List.set_cons_succ]
        have hcm := conv_mark HSH.out 1 1
        refine wpAnyH_ready (rs := [4]) (by kernel_rfl) (by simp) ?_
        refine AllReadyH.cons rfl (fun K hK => ?_) AllReadyH.nil
        go_simp
        replace HX := Lib.hid (HX.out.freeze 1 HXB.out)
        try replace HA1 := Lib.hid (HA1.out.freeze 1 HXB.out)
        try replace HA2 := Lib.hid (HA2.out.freeze 1 HXB.out)
        clear hcm HSH
        refine hK.out _ _ (HG.out _ HX.out.b) (fun hHeld => ?_)
        clear hK K
        try simp only [Act.put, List.setIfInBounds_toArray, List.set_cons_zero, List.set_cons_succ]
        obtain ⟨p1, o1, rfl, _⟩ := HA1.out.r.at (by rw [HL1.out]; omega)
        obtain ⟨p2, o2, rfl, _⟩ := HA2.out.r.at (by rw [HL2.out]; omega)
        have hk := (Below.refl (w2.freeze ⟨W0.heap.size, 1, none⟩ 1).heap.size (w2.freeze ⟨W0.heap.size, 1, none⟩ 1)).onAlloc (.cells #[.slice (some ⟨p1, o1, none⟩) (secL 2 5 1).length c1, .slice none 0 0, .slice (some ⟨p2, o2, none⟩) (secL 2 4 2).length c2, .slice (some ⟨W0.heap.size, 0, none⟩) 1 1] 36)
        have HZ : Hid (RdZ ((w2.freeze ⟨W0.heap.size, 1, none⟩ 1).alloc (.cells #[.slice (some ⟨p1, o1, none⟩) (secL 2 5 1).length c1, .slice none 0 0, .slice (some ⟨p2, o2, none⟩) (secL 2 4 2).length c2, .slice (some ⟨W0.heap.size, 0, none⟩) 1 1] 36)) (some ⟨(w2.freeze ⟨W0.heap.size, 1, none⟩ 1).heap.size, 0, none⟩) [⟨some ⟨p1, o1, none⟩, c1, secL 2 5 1⟩, ⟨none, 0, []⟩, ⟨some ⟨p2, o2, none⟩, c2, secL 2 4 2⟩, ⟨some ⟨W0.heap.size, 0, none⟩, 1, [120]⟩]) := Lib.hid (by
          refine ⟨fun s hs => ?_, by simp, .inr ⟨(w2.freeze ⟨W0.heap.size, 1, none⟩ 1).heap.size, 0, rfl, fun k s hk2 => ?_⟩⟩
          · simp only [List.mem_cons, List.not_mem_nil, or_false] at hs
            rcases hs with rfl | rfl | rfl | rfl
            · exact ⟨(HA1.out.on hk).r, HA1.out.le⟩
            · exact ⟨RdY.nil _, by simp⟩
            · exact ⟨(HA2.out.on hk).r, HA2.out.le⟩
            · exact ⟨(HX.out.on hk).r, HX.out.le⟩
          · rw [Nat.zero_add, World.cell?_alloc_new]
            match k with
            | 0 => simp at hk2; subst hk2; rfl
            | 1 => simp at hk2; subst hk2; rfl
            | 2 => simp at hk2; subst hk2; rfl
            | 3 => simp at hk2; subst hk2; rfl
            | k + 4 => simp at hk2)
        refine wpAnyH_ready (rs := [5]) (by kernel_rfl) (by simp) ?_
        refine AllReadyH.cons rfl (fun K hK => ?_) AllReadyH.nil
        go_simp
        go_simp
        have HBK := Lib.hid (HA1.out.b.on hk)
        refine hK.out _ _ (HG.out _ HBK.out) (fun hHeld => ?_)
        clear hK K
        try simp only [Act.put, List.setIfInBounds_toArray, List.set_cons_zero, List.set_cons_succ]
        refine wpAnyH_ready (rs := [6]) (by kernel_rfl) (by simp) ?_
        refine AllReadyH.cons rfl (fun K hK => ?_) AllReadyH.nil
        go_simp
        refine (pscan_yes ⟨3, 1, 2, 2, 0⟩ 1 4 8 [⟨some ⟨p1, o1, none⟩, c1, secL 2 5 1⟩, ⟨none, 0, []⟩, ⟨some ⟨p2, o2, none⟩, c2, secL 2 4 2⟩, ⟨some ⟨W0.heap.size, 0, none⟩, 1, [120]⟩] (some ⟨(w2.freeze ⟨W0.heap.size, 1, none⟩ 1).heap.size, 0, none⟩) 4 _ (by decide) rfl (by decide) HZ.out (by simp)).mono ?_
        rintro e w9 ⟨fv, G, rfl, ho, hbd, _, _, hb⟩
        change OwnF w9 _ fv 3 (foundP 8 [secL 2 5 1, [], secL 2 4 2, [120]] 4 (capN 8)) at ho
        change BdR w9 G (liveP 4 (bandsK 8 4 1 [⟨false, secL 2 5 1⟩, ⟨true, []⟩, ⟨false, secL 2 4 2⟩, ⟨false, [120]⟩] 4) (foundP 8 [secL 2 5 1, [], secL 2 4 2, [120]] 4 (capN 8))) at hbd
        rw [aw_found] at ho hbd
        rw [aw_bands _ _ _ _ rfl rfl rfl rfl] at hbd
        have HB9 := Lib.hid (HBK.out.on hb)
        obtain ⟨fa, fc, rfl, hfd⟩ := ho.rd (by simp)
        have HFD := Lib.hid hfd
        have HBD := Lib.hid hbd
        clear ho hbd hfd hb hk HA1 HA2 HX HZ
        refine hK.out _ _ (HG.out _ HB9.out) (fun hHeld => ?_)
        clear hK K
        try simp only [Act.put, List.setIfInBounds_toArray, List.set_cons_zero, List.set_cons_succ]
        refine wpAnyH_take (i := 7) (v := ?_) rfl (by kernel_rfl) (by kernel_rfl) (by kernel_rfl) (fun _ _ _ h => h) (Or.inl ⟨by rfl, ?_⟩) (by assumption) ?_
        rotate_left
        · (intro w hSw; (try dsimp only at hSw); go_simp; try with_reducible rfl)
        try simp only [Act.put, List.setIfInBounds_toArray, List.set_cons_zero, List.set_cons_succ]
        refine wpAnyH_take (i := 8) (v := ?_) rfl (by kernel_rfl) (by kernel_rfl) (by kernel_rfl) (fun _ _ _ h => h) (Or.inl ⟨by rfl, ?_⟩) (by assumption) ?_
        rotate_left
        · (intro w hSw; (try dsimp only at hSw); go_simp; try with_reducible rfl)
        try simp only [Act.put, List.setIfInBounds_toArray, List.set_cons_zero, List.set_cons_succ]
        refine wpAnyH_take (i := 9) (v := ?_) rfl (by kernel_rfl) (by kernel_rfl) (by kernel_rfl) (fun _ _ _ h => h) (Or.inl ⟨by rfl, ?_⟩) (by assumption) ?_
        rotate_left
        · (intro w hSw; (try dsimp only at hSw); go_simp; try with_reducible rfl)
        try simp only [Act.put, List.setIfInBounds_toArray, List.set_cons_zero, List.set_cons_succ]
        refine wpAnyH_take (i := 10) (v := ?_) rfl (by kernel_rfl) (by kernel_rfl) (by kernel_rfl) (fun _ _ _ h => h) (Or.inl ⟨by rfl, ?_⟩) (by assumption) ?_
        rotate_left
        · (intro w hSw; (try dsimp only at hSw); go_simp; try with_reducible rfl)
        try simp only [Act.put, List.setIfInBounds_toArray, List.set_cons_zero, List.set_cons_succ]
        refine wpAnyH_take (i := 11) (v := ?_) rfl (by kernel_rfl) (by kernel_rfl) (by kernel_rfl) (fun _ _ _ h => h) (Or.inl ⟨by rfl, ?_⟩) (by assumption) ?_
        rotate_left
        · (intro w hSw; (try dsimp only at hSw); go_simp; try with_reducible rfl)
        try simp only [Act.put, List.setIfInBounds_toArray, List.set_cons_zero, List.set_cons_succ]
        simp only [Act.put, List.getElem_toArray, List.getElem_cons_succ, List.getElem_cons_zero, List.setIfInBounds_toArray, List.set_cons_zero, List.set_cons_succ]
        refine wpAnyH_done (by kernel_rfl) ?_ _
        obtain ⟨fb, rfl, hat⟩ := HFD.out.2.resolve_left (by simp)
        have f1 : w9.cell? ⟨fb, 2, none⟩ = some (.int .u64 5) := hat 0 awC rfl 2 _ rfl
        have f2 : w9.cell? ⟨fb, 11, none⟩ = some (.int .i64 3) := hat 0 awC rfl 11 _ rfl
        have b0 : w9.cell? ⟨G, 0, none⟩ = some (.int .i64 4) := (HBD.out.at_ 0 _ rfl).c0
        have b1 : w9.cell? ⟨G, 1, none⟩ = some (.int .i64 1) := (HBD.out.at_ 0 _ rfl).c1
        have b2 : w9.cell? ⟨G, 2, none⟩ = some (.int .u64 2) := (HBD.out.at_ 0 _ rfl).c2
        have b3 : w9.cell? ⟨G, 3, none⟩ = some (.int .u64 0) := (HBD.out.at_ 0 _ rfl).c3
        clear hat
        go_wp2_with fail
        go_ret
        exact ⟨rfl, HB0.out.on HB9.out⟩
      · have hcm := conv_mark HSH.out 1 1
        go_simp
        replace HX := Lib.hid (HX.out.freeze 1 HXB.out)
        try replace HA1 := Lib.hid (HA1.out.freeze 1 HXB.out)
        try replace HA2 := Lib.hid (HA2.out.freeze 1 HXB.out)
        clear hcm HSH
        refine hK.out _ _ (HG.out _ HX.out.b) (fun hHeld => ?_)
        clear hK K
        try simp only [Act.put, List.setIfInBounds_toArray, List.set_cons_zero, List.set_cons_succ]
        refine wpAnyH_ready (rs := [2]) (by kernel_rfl) (by simp) ?_
        refine AllReadyH.cons rfl (fun K hK => ?_) AllReadyH.nil
        go_simp
        refine (HS2.out _).mono ?_
        rintro e w2 ⟨v, rfl, ho, hb⟩
        obtain ⟨a2, c2, rfl, h2⟩ := Aw17.of HA1.out.b ho hb (by rw [HL2.out]; omega)
        have HA2 := Lib.hid h2
        replace HA1 := Lib.hid (HA1.out.on hb)
        try replace HX := Lib.hid (HX.out.on hb)
        try replace HSH := Lib.hid (shape_keep HSH.out hb)
        clear ho hb h2
        refine hK.out _ _ (HG.out _ HA2.out.b) (fun hHeld => ?_)
        clear hK K
        try simp only [Act.put, List.setIfInBounds_toArray, List.set_cons_zero, List.set_cons_succ]
        obtain ⟨p1, o1, rfl, _⟩ := HA1.out.r.at (by rw [HL1.out]; omega)
        obtain ⟨p2, o2, rfl, _⟩ := HA2.out.r.at (by rw [HL2.out]; omega)
        have hk := (Below.refl (w2).heap.size (w2)).onAlloc (.cells #[.slice (some ⟨p1, o1, none⟩) (secL 2 5 1).length c1, .slice none 0 0, .slice (some ⟨p2, o2, none⟩) (secL 2 4 2).length c2, .slice (some ⟨W0.heap.size, 0, none⟩) 1 1] 36)
        have HZ : Hid (RdZ ((w2).alloc (.cells #[.slice (some ⟨p1, o1, none⟩) (secL 2 5 1).length c1, .slice none 0 0, .slice (some ⟨p2, o2, none⟩) (secL 2 4 2).length c2, .slice (some ⟨W0.heap.size, 0, none⟩) 1 1] 36)) (some ⟨(w2).heap.size, 0, none⟩) [⟨some ⟨p1, o1, none⟩, c1, secL 2 5 1⟩, ⟨none, 0, []⟩, ⟨some ⟨p2, o2, none⟩, c2, secL 2 4 2⟩, ⟨some ⟨W0.heap.size, 0, none⟩, 1, [120]⟩]) := Lib.hid (by
          refine ⟨fun s hs => ?_, by simp, .inr ⟨(w2).heap.size, 0, rfl, fun k s hk2 => ?_⟩⟩
          · simp only [List.mem_cons, List.not_mem_nil, or_false] at hs
            rcases hs with rfl | rfl | rfl | rfl
            · exact ⟨(HA1.out.on hk).r, HA1.out.le⟩
            · exact ⟨RdY.nil _, by simp⟩
            · exact ⟨(HA2.out.on hk).r, HA2.out.le⟩
            · exact ⟨(HX.out.on hk).r, HX.out.le⟩
          · rw [Nat.zero_add, World.cell?_alloc_new]
            match k with
            | 0 => simp at hk2; subst hk2; rfl
            | 1 => simp at hk2; subst hk2; rfl
            | 2 => simp at hk2; subst hk2; rfl
            | 3 => simp at hk2; subst hk2; rfl
            | k + 4 => simp at hk2)
        refine wpAnyH_ready (rs := [5]) (by kernel_rfl) (by simp) ?_
        refine AllReadyH.cons rfl (fun K hK => ?_) AllReadyH.nil
        go_simp
        go_simp
        have HBK := Lib.hid (HA1.out.b.on hk)
        refine hK.out _ _ (HG.out _ HBK.out) (fun hHeld => ?_)
        clear hK K
        try simp only [Act.put, List.setIfInBounds_toArray, List.set_cons_zero, List.set_cons_succ]
        refine wpAnyH_ready (rs := [6]) (by kernel_rfl) (by simp) ?_
        refine AllReadyH.cons rfl (fun K hK => ?_) AllReadyH.nil
        go_simp
        refine (pscan_yes ⟨3, 1, 2, 2, 0⟩ 1 4 8 [⟨some ⟨p1, o1, none⟩, c1, secL 2 5 1⟩, ⟨none, 0, []⟩, ⟨some ⟨p2, o2, none⟩, c2, secL 2 4 2⟩, ⟨some ⟨W0.heap.size, 0, none⟩, 1, [120]⟩] (some ⟨(w2).heap.size, 0, none⟩) 4 _ (by decide) rfl (by decide) HZ.out (by simp)).mono ?_
        rintro e w9 ⟨fv, G, rfl, ho, hbd, _, _, hb⟩
        change OwnF w9 _ fv 3 (foundP 8 [secL 2 5 1, [], secL 2 4 2, [120]] 4 (capN 8)) at ho
        change BdR w9 G (liveP 4 (bandsK 8 4 1 [⟨false, secL 2 5 1⟩, ⟨true, []⟩, ⟨false, secL 2 4 2⟩, ⟨false, [120]⟩] 4) (foundP 8 [secL 2 5 1, [], secL 2 4 2, [120]] 4 (capN 8))) at hbd
        rw [aw_found] at ho hbd
        rw [aw_bands _ _ _ _ rfl rfl rfl rfl] at hbd
        have HB9 := Lib.hid (HBK.out.on hb)
        obtain ⟨fa, fc, rfl, hfd⟩ := ho.rd (by simp)
        have HFD := Lib.hid hfd
        have HBD := Lib.hid hbd
        clear ho hbd hfd hb hk HA1 HA2 HX HZ
        refine hK.out _ _ (HG.out _ HB9.out) (fun hHeld => ?_)
        clear hK K
        try simp only [Act.put, List.setIfInBounds_toArray, List.set_cons_zero, List.set_cons_succ]
        refine wpAnyH_take (i := 7) (v := ?_) rfl (by kernel_rfl) (by kernel_rfl) (by kernel_rfl) (fun _ _ _ h => h) (Or.inl ⟨by rfl, ?_⟩) (by assumption) ?_
        rotate_left
        · (intro w hSw; (try dsimp only at hSw); go_simp; try with_reducible rfl)
        try simp only [Act.put, List.setIfInBounds_toArray, List.set_cons_zero, List.set_cons_succ]
        refine wpAnyH_take (i := 8) (v := ?_) rfl (by kernel_rfl) (by kernel_rfl) (by kernel_rfl) (fun _ _ _ h => h) (Or.inl ⟨by rfl, ?_⟩) (by assumption) ?_
        rotate_left
        · (intro w hSw; (try dsimp only at hSw); go_simp; try with_reducible rfl)
        try simp only [Act.put, List.setIfInBounds_toArray, List.set_cons_zero, List.set_cons_succ]
        refine wpAnyH_take (i := 9) (v := ?_) rfl (by kernel_rfl) (by kernel_rfl) (by kernel_rfl) (fun _ _ _ h => h) (Or.inl ⟨by rfl, ?_⟩) (by assumption) ?_
        rotate_left
        · (intro w hSw; (try dsimp only at hSw); go_simp; try with_reducible rfl)
        try simp only [Act.put, List.setIfInBounds_toArray, List.set_cons_zero, List.set_cons_succ]
        refine wpAnyH_take (i := 10) (v := ?_) rfl (by kernel_rfl) (by kernel_rfl) (by kernel_rfl) (fun _ _ _ h => h) (Or.inl ⟨by rfl, ?_⟩) (by assumption) ?_
        rotate_left
        · (intro w hSw; (try dsimp only at hSw); go_simp; try with_reducible rfl)
        try simp only [Act.put, List.setIfInBounds_toArray, List.set_cons_zero, List.set_cons_succ]
        refine wpAnyH_take (i := 11) (v := ?_) rfl (by kernel_rfl) (by kernel_rfl) (by kernel_rfl) (fun _ _ _ h => h) (Or.inl ⟨by rfl, ?_⟩) (by assumption) ?_
        rotate_left
        · (intro w hSw; (try dsimp only at hSw); go_simp; try with_reducible rfl)
        try simp only [Act.put, List.setIfInBounds_toArray, List.set_cons_zero, List.set_cons_succ]
        simp only [Act.put, List.getElem_toArray, List.getElem_cons_succ, List.getElem_cons_zero, List.setIfInBounds_toArray, List.set_cons_zero, List.set_cons_succ]
        refine wpAnyH_done (by kernel_rfl) ?_ _
        obtain ⟨fb, rfl, hat⟩ := HFD.out.2.resolve_left (by simp)
        have f1 : w9.cell? ⟨fb, 2, none⟩ = some (.int .u64 5) := hat 0 awC rfl 2 _ rfl
        have f2 : w9.cell? ⟨fb, 11, none⟩ = some (.int .i64 3) := hat 0 awC rfl 11 _ rfl
        have b0 : w9.cell? ⟨G, 0, none⟩ = some (.int .i64 4) := (HBD.out.at_ 0 _ rfl).c0
        have b1 : w9.cell? ⟨G, 1, none⟩ = some (.int .i64 1) := (HBD.out.at_ 0 _ rfl).c1
        have b2 : w9.cell? ⟨G, 2, none⟩ = some (.int .u64 2) := (HBD.out.at_ 0 _ rfl).c2
        have b3 : w9.cell? ⟨G, 3, none⟩ = some (.int .u64 0) := (HBD.out.at_ 0 _ rfl).c3
        clear hat
        go_wp2_with fail
        go_ret
        exact ⟨rfl, HB0.out.on HB9.out⟩
    · have hcm := conv_mark HSH.out 1 1
      go_simp
      replace HX := Lib.hid (HX.out.freeze 1 HXB.out)
      try replace HA1 := Lib.hid (HA1.out.freeze 1 HXB.out)
      try replace HA2 := Lib.hid (HA2.out.freeze 1 HXB.out)
      clear hcm HSH
      refine hK.out _ _ (HG.out _ HX.out.b) (fun hHeld => ?_)
      clear hK K
      try simp only [Act.put, List.setIfInBounds_toArray, List.set_cons_zero, List.set_cons_succ]
      refine wpAnyH_ready (rs := [1]) (by kernel_rfl) (by simp) ?_
      refine AllReadyH.cons rfl (fun K hK => ?_) AllReadyH.nil
      go_simp
      refine (HS1.out _).mono ?_
      rintro e w1 ⟨v, rfl, ho, hb⟩
      obtain ⟨a1, c1, rfl, h1⟩ := Aw17.of (HX.out.b) ho hb (by rw [HL1.out]; omega)
      have HA1 := Lib.hid h1
      try replace HX := Lib.hid (HX.out.on hb)
      try replace HSH := Lib.hid (shape_keep HSH.out hb)
      clear ho hb h1
      refine hK.out _ _ (HG.out _ HA1.out.b) (fun hHeld => ?_)
      clear hK K
      try simp only [Act.put, List.setIfInBounds_toArray, List.set_cons_zero, List.set_cons_succ]
      refine wpAnyH_ready (rs := [2]) (by kernel_rfl) (by simp) ?_
      refine AllReadyH.cons rfl (fun K hK => ?_) AllReadyH.nil
      go_simp
      refine (HS2.out _).mono ?_
      rintro e w2 ⟨v, rfl, ho, hb⟩
      obtain ⟨a2, c2, rfl, h2⟩ := Aw17.of HA1.out.b ho hb (by rw [HL2.out]; omega)
      have HA2 := Lib.hid h2
      replace HA1 := Lib.hid (HA1.out.on hb)
      try replace HX := Lib.hid (HX.out.on hb)
      try replace HSH := Lib.hid (shape_keep HSH.out hb)
      clear ho hb h2
      refine hK.out _ _ (HG.out _ HA2.out.b) (fun hHeld => ?_)
      clear hK K
      try simp only [Act.put, List.setIfInBounds_toArray, List.set_cons_zero, List.set_cons_succ]
      obtain ⟨p1, o1, rfl, _⟩ := HA1.out.r.at (by rw [HL1.out]; omega)
      obtain ⟨p2, o2, rfl, _⟩ := HA2.out.r.at (by rw [HL2.out]; omega)
      have hk := (Below.refl (w2).heap.size (w2)).onAlloc (.cells #[.slice (some ⟨p1, o1, none⟩) (secL 2 5 1).length c1, .slice none 0 0, .slice (some ⟨p2, o2, none⟩) (secL 2 4 2).length c2, .slice (some ⟨W0.heap.size, 0, none⟩) 1 1] 36)
      have HZ : Hid (RdZ ((w2).alloc (.cells #[.slice (some ⟨p1, o1, none⟩) (secL 2 5 1).length c1, .slice none 0 0, .slice (some ⟨p2, o2, none⟩) (secL 2 4 2).length c2, .slice (some ⟨W0.heap.size, 0, none⟩) 1 1] 36)) (some ⟨(w2).heap.size, 0, none⟩) [⟨some ⟨p1, o1, none⟩, c1, secL 2 5 1⟩, ⟨none, 0, []⟩, ⟨some ⟨p2, o2, none⟩, c2, secL 2 4 2⟩, ⟨some ⟨W0.heap.size, 0, none⟩, 1, [120]⟩]) := Lib.hid (by
        refine ⟨fun s hs => ?_, by simp, .inr ⟨(w2).heap.size, 0, rfl, fun k s hk2 => ?_⟩⟩
        · simp only [List.mem_cons, List.not_mem_nil, or_false] at hs
          rcases hs with rfl | rfl | rfl | rfl
          · exact ⟨(HA1.out.on hk).r, HA1.out.le⟩
          · exact ⟨RdY.nil _, by simp⟩
          · exact ⟨(HA2.out.on hk).r, HA2.out.le⟩
          · exact ⟨(HX.out.on hk).r, HX.out.le⟩
        · rw [Nat.zero_add, World.cell?_alloc_new]
          match k with
          | 0 => simp at hk2; subst hk2; rfl
          | 1 => simp at hk2; subst hk2; rfl
          | 2 => simp at hk2; subst hk2; rfl
          | 3 => simp at hk2; subst hk2; rfl
          | k + 4 => simp at hk2)
      refine wpAnyH_ready (rs := [5]) (by kernel_rfl) (by simp) ?_
      refine AllReadyH.cons rfl (fun K hK => ?_) AllReadyH.nil
      go_simp
      go_simp
      have HBK := Lib.hid (HA1.out.b.on hk)
      refine hK.out _ _ (HG.out _ HBK.out) (fun hHeld => ?_)
      clear hK K
      try simp only [Act.put, List.setIfInBounds_toArray, List.set_cons_zero, List.set_cons_succ]
      refine wpAnyH_ready (rs := [6]) (by kernel_rfl) (by simp) ?_
      refine AllReadyH.cons rfl (fun K hK => ?_) AllReadyH.nil
      go_simp
      refine (pscan_yes ⟨3, 1, 2, 2, 0⟩ 1 4 8 [⟨some ⟨p1, o1, none⟩, c1, secL 2 5 1⟩, ⟨none, 0, []⟩, ⟨some ⟨p2, o2, none⟩, c2, secL 2 4 2⟩, ⟨some ⟨W0.heap.size, 0, none⟩, 1, [120]⟩] (some ⟨(w2).heap.size, 0, none⟩) 4 _ (by decide) rfl (by decide) HZ.out (by simp)).mono ?_
      rintro e w9 ⟨fv, G, rfl, ho, hbd, _, _, hb⟩
      change OwnF w9 _ fv 3 (foundP 8 [secL 2 5 1, [], secL 2 4 2, [120]] 4 (capN 8)) at ho
      change BdR w9 G (liveP 4 (bandsK 8 4 1 [⟨false, secL 2 5 1⟩, ⟨true, []⟩, ⟨false, secL 2 4 2⟩, ⟨false, [120]⟩] 4) (foundP 8 [secL 2 5 1, [], secL 2 4 2, [120]] 4 (capN 8))) at hbd
      rw [aw_found] at ho hbd
      rw [aw_bands _ _ _ _ rfl rfl rfl rfl] at hbd
      have HB9 := Lib.hid (HBK.out.on hb)
      obtain ⟨fa, fc, rfl, hfd⟩ := ho.rd (by simp)
      have HFD := Lib.hid hfd
      have HBD := Lib.hid hbd
      clear ho hbd hfd hb hk HA1 HA2 HX HZ
      refine hK.out _ _ (HG.out _ HB9.out) (fun hHeld => ?_)
      clear hK K
      try simp only [Act.put, List.setIfInBounds_toArray, List.set_cons_zero, List.set_cons_succ]
      refine wpAnyH_take (i := 7) (v := ?_) rfl (by kernel_rfl) (by kernel_rfl) (by kernel_rfl) (fun _ _ _ h => h) (Or.inl ⟨by rfl, ?_⟩) (by assumption) ?_
      rotate_left
      · (intro w hSw; (try dsimp only at hSw); go_simp; try with_reducible rfl)
      try simp only [Act.put, List.setIfInBounds_toArray, List.set_cons_zero, List.set_cons_succ]
      refine wpAnyH_take (i := 8) (v := ?_) rfl (by kernel_rfl) (by kernel_rfl) (by kernel_rfl) (fun _ _ _ h => h) (Or.inl ⟨by rfl, ?_⟩) (by assumption) ?_
      rotate_left
      · (intro w hSw; (try dsimp only at hSw); go_simp; try with_reducible rfl)
      try simp only [Act.put, List.setIfInBounds_toArray, List.set_cons_zero, List.set_cons_succ]
      refine wpAnyH_take (i := 9) (v := ?_) rfl (by kernel_rfl) (by kernel_rfl) (by kernel_rfl) (fun _ _ _ h => h) (Or.inl ⟨by rfl, ?_⟩) (by assumption) ?_
      rotate_left
      · (intro w hSw; (try dsimp only at hSw); go_simp; try with_reducible rfl)
      try simp only [Act.put, List.setIfInBounds_toArray, List.set_cons_zero, List.set_cons_succ]
      refine wpAnyH_take (i := 10) (v := ?_) rfl (by kernel_rfl) (by kernel_rfl) (by kernel_rfl) (fun _ _ _ h => h) (Or.inl ⟨by rfl, ?_⟩) (by assumption) ?_
      rotate_left
      · (intro w hSw; (try dsimp only at hSw); go_simp; try with_reducible rfl)
      try simp only [Act.put, List.setIfInBounds_toArray, List.set_cons_zero, List.set_cons_succ]
      refine wpAnyH_take (i := 11) (v := ?_) rfl (by kernel_rfl) (by kernel_rfl) (by kernel_rfl) (fun _ _ _ h => h) (Or.inl ⟨by rfl, ?_⟩) (by assumption) ?_
      rotate_left
      · (intro w hSw; (try dsimp only at hSw); go_simp; try with_reducible rfl)
      try simp only [Act.put, List.setIfInBounds_toArray, List.set_cons_zero, List.set_cons_succ]
      simp only [Act.put, List.getElem_toArray, List.getElem_cons_succ, List.getElem_cons_zero, List.setIfInBounds_toArray, List.set_cons_zero, List.set_cons_succ]
      refine wpAnyH_done (by kernel_rfl) ?_ _
      obtain ⟨fb, rfl, hat⟩ := HFD.out.2.resolve_left (by simp)
      have f1 : w9.cell? ⟨fb, 2, none⟩ = some (.int .u64 5) := hat 0 awC rfl 2 _ rfl
      have f2 : w9.cell? ⟨fb, 11, none⟩ = some (.int .i64 3) := hat 0 awC rfl 11 _ rfl
      have b0 : w9.cell? ⟨G, 0, none⟩ = some (.int .i64 4) := (HBD.out.at_ 0 _ rfl).c0
      have b1 : w9.cell? ⟨G, 1, none⟩ = some (.int .i64 1) := (HBD.out.at_ 0 _ rfl).c1
      have b2 : w9.cell? ⟨G, 2, none⟩ = some (.int .u64 2) := (HBD.out.at_ 0 _ rfl).c2
      have b3 : w9.cell? ⟨G, 3, none⟩ = some (.int .u64 0) := (HBD.out.at_ 0 _ rfl).c3
      clear hat
      go_wp2_with fail
      go_ret
      exact ⟨rfl, HB0.out.on HB9.out⟩
end Go.Proofs.Ytbiecglooagmmaa
