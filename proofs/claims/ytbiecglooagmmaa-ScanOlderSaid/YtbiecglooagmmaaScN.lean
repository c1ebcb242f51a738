/-
  scan.Scan.
  Conditions: as each theorem says.
-/
import Derived.Test.YtbiecglooagmmaaScM
namespace Go.Proofs.Ytbiecglooagmmaa
set_option linter.unusedSimpArgs false
set_option linter.unusedVariables false
set_option maxRecDepth 100000
open Go.RowKit Go.Maps

structure PsH (w wr : World) (gr nb : Int) (G bm : Nat) (L : List Bd) (n : Nat) (D : DataW Value) : Prop where
  g : GeH w wr gr nb G
  b : BdR wr G L
  m : mapC wr bm n D
  ne : G < bm
theorem PsH.later {w W W' : World} {gr nb : Int} {G bm n : Nat} {L : List Bd} {D : DataW Value} (h : PsH w W gr nb G bm L n D) (hb : Below W.heap.size W W') : PsH w W' gr nb G bm L n D :=
  ⟨h.g.later hb, h.b.keep hb, h.m.kept (row := none) ⟨hb.os, hb.tape, hb.output, hb.size, fun k hk _ => hb.block k hk⟩ (by simp), h.ne⟩
theorem PsH.store {w W : World} {gr nb : Int} {G bm n : Nat} {L L' : List Bd} {D : DataW Value} (h : PsH w W gr nb G bm L n D) (i : Nat) (v : Value) (hL : BdR (W.setCell ⟨G, i, none⟩ v) G L') : PsH w (W.setCell ⟨G, i, none⟩ v) gr nb G bm L' n D :=
  ⟨h.g.set i v, hL, h.m.kept (sgrown_setCell W ⟨G, i, none⟩ v) (by intro e; injection e with e; have := h.ne; simp only at e; omega), h.ne⟩
theorem PsH.upd {w W W' : World} {gr nb : Int} {G bm n n' : Nat} {L : List Bd} {D D' : DataW Value} (h : PsH w W gr nb G bm L n D) (hm : mapC W' bm n' D') (hg : W.grownBy W' (some bm)) : PsH w W' gr nb G bm L n' D' := by
  have hne := h.ne
  have hlt := h.g.lt
  have hc : ∀ i v, W.cell? ⟨w.heap.size, i, none⟩ = some v → W'.cell? ⟨w.heap.size, i, none⟩ = some v := fun i v hv => by
    have hb2 := hg.block w.heap.size (World.block_lt_of_cell? _ _ hv) (fun e => by injection e with e; omega)
    unfold World.cell? at hv ⊢
    simp only at hv ⊢
    rw [hb2]
    exact hv
  exact ⟨⟨hc 0 _ h.g.q0, hc 1 _ h.g.q1, h.g.lt, h.g.b.onGrow hg fun j hj => by injection hj with hj; omega⟩, h.b.other hg (by intro e; injection e with e; omega), hm, h.ne⟩
/-- What has come out of the range. -/
structure RgX (left : Lit → Bool) (X : List Cd) (bl : Int) (L : List (List UInt8)) (N : Nat) : Prop where
  mem : ∀ c, c ∈ X ↔ ∃ b : Int, best bl L b N = some c ∧ left (.int .i64 b) = false
  nd : X.Nodup
  ok : ∀ b : Int, left (.int .i64 b) = true → (best bl L b N).isSome = true
theorem RgX.start {D : DataW Value} {r bl : Int} {L : List (List UInt8)} {N : Nat} (h : NwM D r bl L N) : RgX (Maps.has D) [] bl L N := by
  refine ⟨fun c => ⟨fun hc => by simp at hc, fun ⟨b, h1, h2⟩ => ?_⟩, List.nodup_nil, fun b hb => by rw [← h.has]; exact hb⟩
  rw [h.has, h1] at h2
  cases h2
theorem lit_same (b x : Int) : (Lit.int .i64 b).sameKey (.int .i64 x) = decide (b = x) := by
  rw [Bool.eq_iff_iff]
  simp [Lit.sameKey]
theorem RgX.step {left : Lit → Bool} {X : List Cd} {bl : Int} {L : List (List UInt8)} {N : Nat} (h : RgX left X bl L N) {x : Int} {c : Cd} (hl : left (.int .i64 x) = true) (hc : best bl L x N = some c) : RgX (fun z => left z && !z.sameKey (.int .i64 x)) (X ++ [c]) bl L N := by
  have hx := (best_some hc).2.1
  refine ⟨fun d => ?_, ?_, fun b hb => h.ok b (by simp only [Bool.and_eq_true] at hb; exact hb.1)⟩
  · rw [List.mem_append, List.mem_singleton]
    constructor
    · rintro (hd | rfl)
      · obtain ⟨b, h1, h2⟩ := (h.mem d).1 hd
        exact ⟨b, h1, by simp [h2]⟩
      · exact ⟨x, hc, by simp [lit_same]⟩
    · rintro ⟨b, h1, h2⟩
      simp only [Bool.and_eq_false_iff, lit_same, Bool.not_eq_false', decide_eq_true_eq] at h2
      rcases h2 with h2 | rfl
      · exact .inl ((h.mem d).2 ⟨b, h1, h2⟩)
      · rw [hc] at h1
        exact .inr (Option.some.inj h1).symm
  · rw [List.nodup_append]
    refine ⟨h.nd, by simp, fun a ha b hb => ?_⟩
    rw [List.mem_singleton] at hb
    subst hb
    rintro rfl
    obtain ⟨b, h1, h2⟩ := (h.mem a).1 ha
    have := (best_some h1).2.1
    have hbx : b = x := by omega
    rw [hbx, hl] at h2
    cases h2
theorem RgX.valid {left : Lit → Bool} {X : List Cd} {bl : Int} {L : List (List UInt8)} {N : Nat} (h : RgX left X bl L N) {c : Cd} (hc : c ∈ X) : 0 ≤ c.e.block ∧ c.e.block < 65536 ∧ c.i < N := by
  obtain ⟨b, h1, _⟩ := (h.mem c).1 hc
  obtain ⟨g1, g2, g3⟩ := best_some h1
  have := cand_block g3
  unfold capN at this
  omega
theorem RgX.len {left : Lit → Bool} {X : List Cd} {bl : Int} {L : List (List UInt8)} {N : Nat} (h : RgX left X bl L N) : X.length ≤ 65536 := by
  rw [← List.length_map (f := fun c : Cd => c.e.block.toNat)]
  refine pigeon 65536 _ ?_ fun v hv => ?_
  · refine List.pairwise_map.2 (List.Pairwise.imp_of_mem ?_ h.nd)
    intro a b ha hb hne e
    obtain ⟨x, h1, _⟩ := (h.mem a).1 ha
    obtain ⟨y, h2, _⟩ := (h.mem b).1 hb
    have v1 := h.valid ha
    have v2 := h.valid hb
    have e1 := (best_some h1).2.1
    have e2 := (best_some h2).2.1
    have hxy : x = y := by omega
    rw [hxy, h2] at h1
    exact hne (Option.some.inj h1).symm
  · obtain ⟨c, hc, rfl⟩ := List.mem_map.1 hv
    have := h.valid hc
    omega
/-- All has come: it is what Scan finds, in some order. -/
theorem RgX.fin {left : Lit → Bool} {X : List Cd} {bl : Int} {L : List (List UInt8)} {N : Nat} (h : RgX left X bl L N) (hl : ∀ kl, left kl = false) : X.Perm (foundP bl L N (capN bl)) := by
  refine (List.perm_ext_iff_of_nodup h.nd (foundP_up bl L N _).nodup).2 fun c => ?_
  rw [h.mem]
  constructor
  · rintro ⟨b, h1, _⟩
    exact found_best h1
  · intro hc
    obtain ⟨b, _, h1⟩ := foundP_mem.1 hc
    exact ⟨b, h1, hl _⟩
/-- Sorted by block: what Scan finds, in order. -/
theorem sorted_found {d : List Cd} {bl : Int} {L : List (List UInt8)} {N : Nat} (hp : d.Perm (foundP bl L N (capN bl))) (hs : d.Pairwise fun x y => x.e.block ≤ y.e.block) : d = foundP bl L N (capN bl) := by
  refine Up.eq ?_ (foundP_up bl L N _) fun c => hp.mem_iff
  have hn : d.Nodup := hp.nodup_iff.2 (foundP_up bl L N _).nodup
  refine List.Pairwise.imp_of_mem (R := fun a b : Cd => a.e.block ≤ b.e.block ∧ a ≠ b) ?_ (List.pairwise_and_iff.2 ⟨hs, hn⟩)
  intro a b ha hb ⟨h1, h2⟩
  obtain ⟨x, _, g1⟩ := foundP_mem.1 (hp.mem_iff.1 ha)
  obtain ⟨y, _, g2⟩ := foundP_mem.1 (hp.mem_iff.1 hb)
  have e1 := (best_some g1).2.1
  have e2 := (best_some g2).2.1
  by_cases e : a.e.block = b.e.block
  · have hxy : (x : Int) = y := by omega
    rw [hxy, g2] at g1
    exact absurd (Option.some.inj g1).symm h2
  · omega
theorem CEe.aside {W : World} {T G : Nat} {e : Ent} (h : CEe W T e) (hne : T ≠ G) (i : Nat) (v : Value) : CEe (W.setCell ⟨G, i, none⟩ v) T e := by
  have k : ∀ j, (W.setCell ⟨G, i, none⟩ v).cell? ⟨T, j, none⟩ = W.cell? ⟨T, j, none⟩ := fun j => World.cell?_setCell_other _ _ _ _ (fun e => hne (Addr.mk.inj e).1.symm)
  exact ⟨(k _).trans h.c0, (k _).trans h.c1, (k _).trans h.c2, (k _).trans h.c3, (k _).trans h.c4, (k _).trans h.c5, (k _).trans h.c6, (k _).trans h.c7, (k _).trans h.c8, (k _).trans h.c9, (k _).trans h.c10, fun j => by rw [World.frozen?_setCell]; exact h.f j⟩
set_option maxHeartbeats 8000000 in
theorem pscan_yes (g : Geo) (nb sz : Nat) (bl : Int) (S : List SV) (a : Option Addr) (c : Nat) (w : World) (hg : g.ok = true) (hnb : g.b = (nb : Int)) (hsz : g.size = (sz : Int)) (hr : RdZ w a S) (hc : S.length ≤ c) :
    Calls Try.prog 9 #[g.v, .slice a S.length c, .int .i64 bl] w (ScanP g nb sz (min (nb * sz) S.length) bl S w) := by
  have hlen := hr.2.1
  have hbd := Geo.bd hg
  rw [hnb, hsz] at hbd
  have hnb1 : 1 ≤ nb ∧ nb ≤ 64 := by omega
  have hsz1 : 1 ≤ sz ∧ sz ≤ 1024 := by omega
  have hmul : nb * sz ≤ 65536 := by have : ((nb * sz : Nat) : Int) ≤ 65536 := by push_cast; omega
                                    omega
  have HZ := Lib.hid (fun W => gsize_any g W)
  rw [hsz] at HZ
  obtain ⟨gr, gb, gt, gs, go⟩ := g
  simp only at hnb hbd
  subst hnb
  unfold Geo.v at HZ ⊢
  simp only at HZ ⊢
  have hka := (Below.refl w.heap.size w).onAlloc (.cells #[.int .i64 gr, .int .i64 nb, .int .i64 gt, .int .i64 gs, .int .i64 go] 23)
  have HKA := Lib.hid hka
  have HR := Lib.hid hr
  have hm1 : IntKind.i64.wrap ((nb : Int) * (sz : Int)) = (nb : Int) * (sz : Int) := IntWalk.i64_in _ (by push_cast at hmul ⊢; rw [← Int.natCast_mul]; omega)
  have HMU := Lib.hid hmul
  have HN1 := Lib.hid hnb1
  have HS1 := Lib.hid hsz1
  have HGR : Hid (0 ≤ gr ∧ gr ≤ 16384) := Lib.hid (by omega)
  have z1 : ¬ sz = 0 := by omega
  obtain ⟨N, hN⟩ : ∃ N, min (nb * sz) S.length = N := ⟨_, rfl⟩
  rw [hN]
  have hmin : min (S.length : Int) ((nb : Int) * (sz : Int)) = (N : Int) := by rw [← Int.natCast_mul]; omega
  have hNc : (N : Int) ≤ c := by omega
  have hN0 : (0 : Int) ≤ N := by omega
  have HN := Lib.hid hN
  clear hg hsz hr hka hbd hmul hnb1 hsz1 hN hc
  have hmm := @run_makeMap Try.prog
  have q22 : ∀ (w : World) (a : Option Addr) (n c n' c' : Nat), (binOp .eql 36 (.slice a n c) (.slice none n' c')).run Try.prog w = .ok (.bool a.isNone) w := fun w a n c n' c' => Lib.run_eql_slice_nil w _ _ a n c n' c' Try.underlying36
  go_enter Try.func9, Try.ntmps9
  go_wp2_with fail
  refine (HZ.out _).mono ?_
  rintro e w2 ⟨rfl, hb⟩
  have q0 := hb.keep (show (w.alloc (.cells #[.int .i64 gr, .int .i64 nb, .int .i64 gt, .int .i64 gs, .int .i64 go] 23)).cell? ⟨w.heap.size, 0, none⟩ = some (.int .i64 gr) by simp)
  have q1 := hb.keep (show (w.alloc (.cells #[.int .i64 gr, .int .i64 nb, .int .i64 gt, .int .i64 gs, .int .i64 go] 23)).cell? ⟨w.heap.size, 1, none⟩ = some (.int .i64 nb) by simp)
  have HB2 := Lib.hid (HKA.out.on hb)
  have HQ0 := Lib.hid q0
  have HQ1 := Lib.hid q1
  have HLT := Lib.hid (World.block_lt_of_cell? w2 ⟨w.heap.size, 0, none⟩ q0)
  clear hb HKA HZ
  go_upto_region 5 with (at_make; (refine wpList_make_bd _ rfl _ _ 28 rfl Try.underlying28 _ _ nb rfl rfl (by have := HN1.out; omega) w2.heap.size rfl ?_); intro w3 hbd3 hb3)
  have hka := (Below.refl w3.heap.size w3).onAlloc (.map #[] 0)
  have HG3 := Lib.hid (GeH.mk (hb3.keep HQ0.out) (hb3.keep HQ1.out) HLT.out (HB2.out.on hb3))
  have HP : Hid (PsH w (w3.alloc (.map #[] 0)) gr nb w2.heap.size w3.heap.size (bandsK bl sz nb (ssec S) 0) 0 (.map [])) := Lib.hid ⟨HG3.out.later hka, hbd3.keep hka, World.ownsMap_made w3 _ _ _, hbd3.lt⟩
  clear q0 q1 hbd3 hb3 HB2 HQ0 HQ1 HLT hka HG3
  have q0 := HP.out.g.q0
  have q1 := HP.out.g.q1
  go_upto_region 7 with fail
  clear q0 q1
  generalize w3.alloc (.map #[] 0) = w4 at *
  have HNE : Hid (w2.heap.size < w3.heap.size) := Lib.hid HP.out.ne
  generalize w2.heap.size = G at *
  generalize w3.heap.size = bm at *
  go_loopw [41] (fun i wr => ∃ (k n : Nat) (D : DataW Value), k ≤ N ∧ n ≤ k ∧ i = .int .i64 k ∧ PsH w wr gr nb G bm (bandsK bl sz nb (ssec S) k) n D ∧ NwM D gr bl (secs S) k) (fun i _ => N - (intOf i).toNat)
  case atStart => exact ⟨0, 0, _, by omega, by omega, rfl, HP.out, NwM.empty _ _ _⟩
  case round =>
    obtain ⟨k, n, D, hk, hn, rfl, hp, hm⟩ := hrel
    have HP := Lib.hid hp
    have HM := Lib.hid hm
    clear hp hm
    by_cases hlt : k < N
    · have hk1 : k < nb * sz := by have := HN.out; omega
      have hk2 : k < S.length := by have := HN.out; omega
      obtain ⟨bb, oo, rfl, hat⟩ := HR.out.at (by omega)
      have HAT := Lib.hid (hat k _ (List.getElem?_eq_getElem hk2))
      have h1 := HP.out.g.b.keep HAT.out
      have hf := HR.out.1 _ (List.getElem_mem hk2)
      have HEN := Lib.hid (fun W (hb : Below w.heap.size w W) => decode_any S[k].l S[k].a S[k].c W (hf.keep hb).1 hf.2)
      have HSA := Lib.hid (ssec_at hk2)
      have HSB := Lib.hid (secs_at hk2)
      obtain ⟨j, hj⟩ : ∃ j, k / sz = j := ⟨_, rfl⟩
      obtain ⟨m, hm⟩ : ∃ m, k % sz = m := ⟨_, rfl⟩
      have d1 : (k : Int) / (sz : Int) = j := by rw [← hj]; rfl
      have d2 : (k : Int) % (sz : Int) = m := by rw [← hm]; rfl
      have hjn : j < nb := by rw [← hj]; exact mul_bd (by have := HS1.out; omega) hk1
      have hmb : m < sz := by rw [← hm]; exact Nat.mod_lt _ (by have := HS1.out; omega)
      have jb : (j : Int) < nb := by omega
      have jb0 : (0 : Int) ≤ j := by omega
      have hm2 : (m : Int) ≤ 1024 := by have := HS1.out; omega
      have hm0 : (0 : Int) ≤ m := by omega
      have hk65 : (k : Int) ≤ 65536 := by have := HMU.out; omega
      have hw0 : IntKind.i64.wrap ((k : Int) / (sz : Int)) = j := by rw [d1]; exact IntWalk.i64_in _ (by have := HN1.out; omega)
      have HBS : Hid (bandsK bl sz nb (ssec S) (k + 1) = (bandsK bl sz nb (ssec S) k).modify j (upB bl ((m : Int) + 1) S[k].sec)) := Lib.hid (by rw [bandsK, HSA.out, hj, hm])
      have HLB := Lib.hid (bandsK_len bl sz nb (ssec S) k)
      have HK1 : Hid (k + 1 ≤ N) := Lib.hid hlt
      generalize bandsK bl sz nb (ssec S) k = L at *
      have HF0 := Lib.hid hf.1
      have hjL : j < L.length := by rw [HLB.out]; exact hjn
      obtain ⟨x, hx⟩ : ∃ x, L[j]? = some x := ⟨_, List.getElem?_eq_getElem hjL⟩
      have HX := Lib.hid hx
      have HJL := Lib.hid hjL
      have HNN := Lib.hid hn
      generalize S[k] = s at *
      clear hat hf hj hm hjn hmb HSA d1 hx hjL hk1 hk2 hn
      obtain ⟨sa, sc, sl⟩ := s
      unfold SV.v at h1 HAT
      unfold SV.sec at HBS
      unfold DecP at HEN
      simp only at h1 HAT HBS HEN HF0 HSB
      cases sa with
      | none =>
        have hnl : sl = [] := by
          rcases HF0.out.2 with h | ⟨_, _, h, _⟩
          · exact h
          · cases h
        subst hnl
        have HL2 : Hid (bandsK bl sz nb (ssec S) (k + 1) = L) := Lib.hid (by rw [HBS.out]; exact (no_modify fun y _ => by simp [upB]).symm)
        have HM2 := Lib.hid (HM.out.none (by rw [HSB.out]; exact cand_short (by simp)))
        go_wp2_with fail
        go_roundw
        case rel => exact ⟨k + 1, n, D, HK1.out, by have := HNN.out; omega, by go_num, by rw [HL2.out]; exact HP.out, HM2.out⟩
        case measure => simp [intOf]; omega
      | some sad =>
        have hba := HP.out.b.at_ j x HX.out
        have b0 := hba.c0
        have b2 := hba.c2
        have bf := HP.out.b.fz
        have HP0 := Lib.hid (HP.out.store (j * 4) (.int .i64 ((m : Int) + 1)) (HP.out.b.used HJL.out ((m : Int) + 1)))
        have h1s := HP0.out.g.b.keep HAT.out
        go_wp2_with fail
        clear h1s b0 b2 bf hba h1
        have HCX : Hid (∀ y, L[j]? = some y → ageS bl sl y.age = if cand bl sl = none then y.age else max y.age (dec sl).2.1) := Lib.hid fun y _ => by
          unfold ageS
          cases hc : candB bl sl
          · rw [cand_no hc]; rfl
          · rw [cand_yes hc]; rfl
        have HXE := Lib.hid (dec_err sl)
        have HU := Lib.hid (dec_u64 sl)
        have HCD : Hid (cand bl sl = if (dec sl).2.2 = 0 ∧ (dec sl).1.block < bl then some ((dec sl).1, (dec sl).2.1) else none) := Lib.hid rfl
        generalize dec sl = q at *
        obtain ⟨⟨ki, bk, vr, d0, d1, d2, d3, d4, d5, d6, d7⟩, tm, xx⟩ := q
        unfold Ent.v at HEN
        simp only [byV] at HEN HCX HXE HU HCD
        refine (HEN.out _ HP0.out.g.b).mono ?_
        rintro e w6 ⟨rfl, hb⟩
        have hka := (Below.refl w6.heap.size w6).onAlloc (.cells #[.int .i64 ki, .int .i64 bk, .int .u64 vr, .int .u8 d0.toNat, .int .u8 d1.toNat, .int .u8 d2.toNat, .int .u8 d3.toNat, .int .u8 d4.toNat, .int .u8 d5.toNat, .int .u8 d6.toNat, .int .u8 d7.toNat] 41)
        have HP1 := Lib.hid (HP0.out.later hb)
        have HP2 := Lib.hid (HP1.out.later hka)
        have HTL : Hid (G < w6.heap.size) := Lib.hid HP1.out.b.lt
        have HE2 := Lib.hid (CEe.new w6 ⟨ki, bk, vr, d0, d1, d2, d3, d4, d5, d6, d7⟩)
        clear hb hka HP0 HP1 HEN HP
        have HNO : Hid (cand bl sl = none → L.modify j (fun x => ⟨(m : Int) + 1, x.live, x.age, x.wear⟩) = bandsK bl sz nb (ssec S) (k + 1)) := Lib.hid fun hc => by rw [HBS.out]; exact one_modify fun y hy => by simp [upB, HCX.out y hy, hc]
        rcases HXE.out with hx | hx | hx
        · subst hx
          by_cases hbl : bk < bl
          · have HCS : Hid (cand bl sl = some (⟨ki, bk, vr, d0, d1, d2, d3, d4, d5, d6, d7⟩, tm)) := Lib.hid (by rw [HCD.out, if_pos ⟨rfl, hbl⟩])
            have hlb : decide (bl ≤ bk) = false := by simp; omega
            have HBK : Hid (0 ≤ bk ∧ bk < 65536) := Lib.hid (by have := cand_block HCS.out; unfold capN at this; simp only at this; omega)
            have hx2 : (L.modify j fun x => ⟨(m : Int) + 1, x.live, x.age, x.wear⟩)[j]? = some ⟨(m : Int) + 1, x.live, x.age, x.wear⟩ := by rw [List.getElem?_modify, HX.out]; simp
            have HP3 := Lib.hid (HP2.out.store (j * 4 + 2) (.int .u64 (max x.age tm)) (HP2.out.b.age (j := j) (by rw [List.length_modify]; exact HJL.out) (max x.age tm)))
            have HLE : Hid ((L.modify j (fun x => ⟨(m : Int) + 1, x.live, x.age, x.wear⟩)).modify j (fun y => ⟨y.used, y.live, max x.age tm, y.wear⟩) = bandsK bl sz nb (ssec S) (k + 1)) := Lib.hid (by
              rw [HBS.out]
              refine two_modify fun y hy => ?_
              have hyx : y = x := by rw [HX.out] at hy; exact (Option.some.inj hy).symm
              subst hyx
              simp [upB, HCX.out y hy, HCS.out])
            have b2 := (HP2.out.b.at_ j _ hx2).c2
            have bf := HP2.out.b.fz
            simp only at b2
            have hTG : w6.heap.size ≠ G := by have := HP2.out.b.lt; have := HP2.out.ne; have := HTL.out; omega
            have HE3 := Lib.hid (HE2.out.aside hTG (j * 4 + 2) (.int .u64 (max x.age tm)))
            obtain ⟨xu, xl, xa, xw⟩ := x
            simp only at b2 HP3 HE3 HLE
            clear hx2 hTG hbl HU HCD HNO
            go_upto_region 15 with fail
            clear b2 bf
            generalize (w6.alloc (.cells #[.int .i64 ki, .int .i64 bk, .int .u64 vr, .int .u8 d0.toNat, .int .u8 d1.toNat, .int .u8 d2.toNat, .int .u8 d3.toNat, .int .u8 d4.toNat, .int .u8 d5.toNat, .int .u8 d6.toNat, .int .u8 d7.toNat] 41)).setCell ⟨G, j * 4 + 2, none⟩ (.int .u64 (max xa tm)) = w8 at *
            generalize w6.heap.size = T at *
            have HKC := Lib.hid ((Below.refl w8.heap.size w8).onAlloc (.cells #[.int .i64 ki, .int .i64 bk, .int .u64 vr, .int .u8 d0.toNat, .int .u8 d1.toNat, .int .u8 d2.toNat, .int .u8 d3.toNat, .int .u8 d4.toNat, .int .u8 d5.toNat, .int .u8 d6.toNat, .int .u8 d7.toNat, .int .i64 (gr + k), .int .u64 tm] 58))
            have HP4 := Lib.hid (HP3.out.later HKC.out)
            have HE4 := Lib.hid (HE3.out.keep HKC.out)
            have hgr1 := HGR.out.1
            have hgr2 := HGR.out.2
            have hwk : IntKind.i64.wrap (gr + (k : Int)) = gr + k := IntWalk.i64_in _ (by omega)
            have q0 := HP3.out.g.q0
            have c0 := HE3.out.c0
            have c1 := HE3.out.c1
            have c2 := HE3.out.c2
            have c3 := HE3.out.c3
            have c4 := HE3.out.c4
            have c5 := HE3.out.c5
            have c6 := HE3.out.c6
            have c7 := HE3.out.c7
            have c8 := HE3.out.c8
            have c9 := HE3.out.c9
            have c10 := HE3.out.c10
            simp only [byV] at c0 c1 c2 c3 c4 c5 c6 c7 c8 c9 c10
            have hlk := look_cd HP4.out.m HM.out HBK.out
            go_upto_region 16 with fail
            have HPU := Lib.hid (fun hn => HM.out.put (e := ⟨ki, bk, vr, d0, d1, d2, d3, d4, d5, d6, d7⟩) (t := tm) (by rw [HSB.out]; exact HCS.out) hn)
            have HKP := Lib.hid (fun x hx hn => HM.out.keep (e := ⟨ki, bk, vr, d0, d1, d2, d3, d4, d5, d6, d7⟩) (t := tm) (x := x) (by rw [HSB.out]; exact HCS.out) hx hn)
            simp only at HPU HKP
            cases ho : best bl (secs S) bk k with
            | none =>
              rw [ho] at hlk
              have HM2 := Lib.hid (HPU.out (fun x hx => by rw [ho] at hx; cases hx))
              have hk5 := (Below.refl (w8.alloc (.cells #[.int .i64 ki, .int .i64 bk, .int .u64 vr, .int .u8 d0.toNat, .int .u8 d1.toNat, .int .u8 d2.toNat, .int .u8 d3.toNat, .int .u8 d4.toNat, .int .u8 d5.toNat, .int .u8 d6.toNat, .int .u8 d7.toNat, .int .i64 (gr + k), .int .u64 tm] 58)).heap.size (w8.alloc (.cells #[.int .i64 ki, .int .i64 bk, .int .u64 vr, .int .u8 d0.toNat, .int .u8 d1.toNat, .int .u8 d2.toNat, .int .u8 d3.toNat, .int .u8 d4.toNat, .int .u8 d5.toNat, .int .u8 d6.toNat, .int .u8 d7.toNat, .int .i64 (gr + k), .int .u64 tm] 58))).onAlloc (.cells #[.int .i64 0, .int .i64 0, .int .u64 0, .int .u8 0, .int .u8 0, .int .u8 0, .int .u8 0, .int .u8 0, .int .u8 0, .int .u8 0, .int .u8 0, .int .i64 0, .int .u64 0] 58)
              have HP5 := Lib.hid (HP4.out.later hk5)
              rw [show lookC gr none = .agg #[.int .i64 0, .int .i64 0, .int .u64 0, .int .u8 0, .int .u8 0, .int .u8 0, .int .u8 0, .int .u8 0, .int .u8 0, .int .u8 0, .int .u8 0, .int .i64 0, .int .u64 0] from rfl] at hlk
              clear hk5 ho
              go_wp2_with (at_mapUpdate; refine wpList_mapUpdate_own _ rfl _ _ _ 55 rfl 3 58 intKeyed Try.underlying55 heldC bm n D rfl HP5.out.m (by have := HNN.out; have := HMU.out; simp only [maxLen]; omega) _ _ (.int .i64 bk) rfl rfl (intKey HBK.out) (.held (cdV gr ⟨⟨ki, bk, vr, d0, d1, d2, d3, d4, d5, d6, d7⟩, tm, k⟩)) [] rfl ?_; intro w10 hown hgrow)
              have HP6 := Lib.hid (HP5.out.upd hown hgrow)
              clear hown hgrow
              go_wp2_with fail
              go_roundw
              case rel => exact ⟨k + 1, n + 1, _, HK1.out, by have := HNN.out; omega, by go_num, by rw [← HLE.out]; exact HP6.out, HM2.out⟩
              case measure => simp [intOf]; omega
            | some x =>
              rw [ho] at hlk
              have HO := Lib.hid ho
              obtain ⟨⟨kx, bx, vx, f0, f1, f2, f3, f4, f5, f6, f7⟩, tx, cx⟩ := x
              have hk5 := (Below.refl (w8.alloc (.cells #[.int .i64 ki, .int .i64 bk, .int .u64 vr, .int .u8 d0.toNat, .int .u8 d1.toNat, .int .u8 d2.toNat, .int .u8 d3.toNat, .int .u8 d4.toNat, .int .u8 d5.toNat, .int .u8 d6.toNat, .int .u8 d7.toNat, .int .i64 (gr + k), .int .u64 tm] 58)).heap.size (w8.alloc (.cells #[.int .i64 ki, .int .i64 bk, .int .u64 vr, .int .u8 d0.toNat, .int .u8 d1.toNat, .int .u8 d2.toNat, .int .u8 d3.toNat, .int .u8 d4.toNat, .int .u8 d5.toNat, .int .u8 d6.toNat, .int .u8 d7.toNat, .int .i64 (gr + k), .int .u64 tm] 58))).onAlloc (.cells #[.int .i64 kx, .int .i64 bx, .int .u64 vx, .int .u8 f0.toNat, .int .u8 f1.toNat, .int .u8 f2.toNat, .int .u8 f3.toNat, .int .u8 f4.toNat, .int .u8 f5.toNat, .int .u8 f6.toNat, .int .u8 f7.toNat, .int .i64 (gr + cx), .int .u64 tx] 58)
              have HP4' := Lib.hid (HP4.out.later hk5)
              have HE5 := Lib.hid (HE4.out.keep hk5)
              have hlk' : (Instr.lookup 55 (.map (some bm)) (.int .i64 bk) true).run Try.prog (w8.alloc (.cells #[.int .i64 ki, .int .i64 bk, .int .u64 vr, .int .u8 d0.toNat, .int .u8 d1.toNat, .int .u8 d2.toNat, .int .u8 d3.toNat, .int .u8 d4.toNat, .int .u8 d5.toNat, .int .u8 d6.toNat, .int .u8 d7.toNat, .int .i64 (gr + k), .int .u64 tm] 58)) = .ok (.tuple #[.agg #[.int .i64 kx, .int .i64 bx, .int .u64 vx, .int .u8 f0.toNat, .int .u8 f1.toNat, .int .u8 f2.toNat, .int .u8 f3.toNat, .int .u8 f4.toNat, .int .u8 f5.toNat, .int .u8 f6.toNat, .int .u8 f7.toNat, .int .i64 (gr + cx), .int .u64 tx], .bool true]) (w8.alloc (.cells #[.int .i64 ki, .int .i64 bk, .int .u64 vr, .int .u8 d0.toNat, .int .u8 d1.toNat, .int .u8 d2.toNat, .int .u8 d3.toNat, .int .u8 d4.toNat, .int .u8 d5.toNat, .int .u8 d6.toNat, .int .u8 d7.toNat, .int .i64 (gr + k), .int .u64 tm] 58)) := hlk
              have HNW := Lib.hid (fun W => newer_any gr ⟨⟨ki, bk, vr, d0, d1, d2, d3, d4, d5, d6, d7⟩, tm, k⟩ ⟨⟨kx, bx, vx, f0, f1, f2, f3, f4, f5, f6, f7⟩, tx, cx⟩ W)
              unfold cdV at HNW
              simp only [byV] at HNW
              clear hlk ho
              go_wp2_with fail
              refine (HNW.out _).mono ?_
              rintro e w9 ⟨rfl, hb⟩
              have HP5 := Lib.hid (HP4'.out.later hb)
              have HE6 := Lib.hid (HE5.out.keep hb)
              have HC9 : Hid (∀ i v, (#[.int .i64 ki, .int .i64 bk, .int .u64 vr, .int .u8 d0.toNat, .int .u8 d1.toNat, .int .u8 d2.toNat, .int .u8 d3.toNat, .int .u8 d4.toNat, .int .u8 d5.toNat, .int .u8 d6.toNat, .int .u8 d7.toNat, .int .i64 (gr + k), .int .u64 tm] : Array Value)[i]? = some v → w9.cell? ⟨w8.heap.size, i, none⟩ = some v) := Lib.hid fun i v h => hb.keep (hk5.keep (by rw [World.cell?_alloc_new]; exact h))
              clear hb hk5 HP4' HP4 HE5 HE4 HNW hlk' c0 c1 c2 c3 c4 c5 c6 c7 c8 c9 c10 q0
              obtain ⟨nw, hnw⟩ : ∃ b, newer ⟨⟨ki, bk, vr, d0, d1, d2, d3, d4, d5, d6, d7⟩, tm, k⟩ ⟨⟨kx, bx, vx, f0, f1, f2, f3, f4, f5, f6, f7⟩, tx, cx⟩ = b := ⟨_, rfl⟩
              rw [hnw]
              cases nw with
              | false =>
                have HM2 := Lib.hid (HKP.out _ HO.out hnw)
                clear hnw
                go_wp2_with fail
                go_roundw
                case rel => exact ⟨k + 1, n, D, HK1.out, by have := HNN.out; omega, by go_num, by rw [← HLE.out]; exact HP5.out, HM2.out⟩
                case measure => simp [intOf]; omega
              | true =>
                have HM2 := Lib.hid (HPU.out (fun x hx => by rw [HO.out] at hx; injection hx with hx; subst hx; exact hnw))
                clear hnw
                have c1 := HE6.out.c1
                simp only at c1
                have m0 := HC9.out 0 _ rfl
                have m1 := HC9.out 1 _ rfl
                have m2 := HC9.out 2 _ rfl
                have m3 := HC9.out 3 _ rfl
                have m4 := HC9.out 4 _ rfl
                have m5 := HC9.out 5 _ rfl
                have m6 := HC9.out 6 _ rfl
                have m7 := HC9.out 7 _ rfl
                have m8 := HC9.out 8 _ rfl
                have m9 := HC9.out 9 _ rfl
                have m10 := HC9.out 10 _ rfl
                have m11 := HC9.out 11 _ rfl
                have m12 := HC9.out 12 _ rfl
                go_wp2_with (at_mapUpdate; refine wpList_mapUpdate_own _ rfl _ _ _ 55 rfl 3 58 intKeyed Try.underlying55 heldC bm n D rfl HP5.out.m (by have := HNN.out; have := HMU.out; simp only [maxLen]; omega) _ _ (.int .i64 bk) rfl rfl (intKey HBK.out) (.held (cdV gr ⟨⟨ki, bk, vr, d0, d1, d2, d3, d4, d5, d6, d7⟩, tm, k⟩)) [] rfl ?_; intro w10 hown hgrow)
                have HP6 := Lib.hid (HP5.out.upd hown hgrow)
                clear hown hgrow
                go_wp2_with fail
                go_roundw
                case rel => exact ⟨k + 1, n + 1, _, HK1.out, by have := HNN.out; omega, by go_num, by rw [← HLE.out]; exact HP6.out, HM2.out⟩
                case measure => simp [intOf]; omega
          · have hc0 : cand bl sl = none := by rw [HCD.out, if_neg (by simp; omega)]
            have HLE := Lib.hid (HNO.out hc0)
            have HM2 := Lib.hid (HM.out.none (by rw [HSB.out]; exact hc0))
            have hge : decide (bl ≤ bk) = true := by simp; omega
            clear hc0
            go_wp2_with fail
            go_roundw
            case rel => exact ⟨k + 1, n, D, HK1.out, by have := HNN.out; omega, by go_num, by rw [← HLE.out]; exact HP2.out, HM2.out⟩
            case measure => simp [intOf]; omega

        · subst hx
          · have hc0 : cand bl sl = none := by rw [HCD.out, if_neg (by simp)]
            have HLE := Lib.hid (HNO.out hc0)
            have HM2 := Lib.hid (HM.out.none (by rw [HSB.out]; exact hc0))
            clear hc0
            go_wp2_with fail
            go_roundw
            case rel => exact ⟨k + 1, n, D, HK1.out, by have := HNN.out; omega, by go_num, by rw [← HLE.out]; exact HP2.out, HM2.out⟩
            case measure => simp [intOf]; omega

        · subst hx
          · have hc0 : cand bl sl = none := by rw [HCD.out, if_neg (by simp)]
            have HLE := Lib.hid (HNO.out hc0)
            have HM2 := Lib.hid (HM.out.none (by rw [HSB.out]; exact hc0))
            clear hc0
            go_wp2_with fail
            go_roundw
            case rel => exact ⟨k + 1, n, D, HK1.out, by have := HNN.out; omega, by go_num, by rw [← HLE.out]; exact HP2.out, HM2.out⟩
            case measure => simp [intOf]; omega

    · obtain rfl : N = k := by omega
      have HRX := Lib.hid (RgX.start HM.out)
      have HNM := Lib.hid HM.out.at_
      have hRI : bm < wr.heap.size := by have := HP.out.m.lt; exact this
      go_wp2_with (at_range; refine wpList_range_own _ rfl _ 55 rfl 3 58 intKeyed Try.underlying55 heldC bm n D rfl HP.out.m ?_; intro w5 hrg0 hg0 hs0)
      go_frame
      have hb5 : Below wr.heap.size wr w5 := ⟨hg0.os, hg0.tape, hg0.output, hg0.size, fun k hk => hg0.block k hk (by simp)⟩
      have HG5 := Lib.hid (HP.out.g.later hb5)
      have HB5 := Lib.hid (HP.out.b.keep hb5)
      have HRG := Lib.hid hrg0
      have hsz5 : wr.heap.size + 1 ≤ w5.heap.size := by omega
      have HGB : Hid (G < bm ∧ w.heap.size < G) := Lib.hid ⟨HP.out.ne, HP.out.g.lt⟩
      generalize wr.heap.size = RI at *
      clear HP hg0 hs0 hb5 hrg0 HM
      go_loopw [20] (fun v wx => ∃ (left : Lit → Bool) (cnt : Nat) (X : List Cd), wx.ranges Try.prog 3 heldC bm RI n D left cnt ∧ OwnF wx (RI + 1) v gr X ∧ BdR wx G (liveP sz (bandsK bl sz nb (ssec S) N) X) ∧ GeH w wx gr nb G ∧ RI + 1 ≤ wx.heap.size ∧ Hid (RgX left X bl (secs S) N)) (fun _ wx => wx.rangeLeft bm RI)
      case atStart => exact ⟨_, _, [], HRG.out, OwnF.nil _ _ _, HB5.out, HG5.out, hsz5, HRX⟩
      case round =>
        obtain ⟨left, cnt, X, hrg, ho, hbd, hg, hsz6, HX⟩ := hrel
        have HO := Lib.hid ho
        have HBD := Lib.hid hbd
        have HG := Lib.hid hg
        have HRGx := Lib.hid hrg
        have HSZ := Lib.hid hsz6
        clear ho hbd hg HRG HG5 HB5 hsz5 hrg hsz6
        go_wp2_with (at_next; refine wpList_next_ranges _ rfl _ rfl 3 intKeyed heldC (Value.int .i64) (fun v : Value => v) (fun key kl hkey => by obtain ⟨x, rfl, _⟩ := Maps.keyOf_int_inv Try.underlying3 hkey; exact ⟨x, rfl⟩) (fun v y _ => ⟨v, rfl⟩) bm RI n _ _ _ rfl HRGx.out ?_ ?_)
        · intro _ hl0
          have HPF := Lib.hid (HX.out.fin hl0)
          have HXV := Lib.hid (fun c hc => HX.out.valid (c := c) hc)
          have HRX2 := Lib.hid HX.out.len
          go_upto_region 26 with fail
          go_wp2_with fail
          refine (ssort_own gr u20 X (RI + 1) wr HO.out (fun c hc => by have := HXV.out c hc; exact ⟨this.1, this.2.1⟩) (by have := HRX2.out; omega)).mono ?_
          rintro e w7 ⟨rfl, d, ho, hg, hp, hs⟩
          have hd := sorted_found (hp.trans HPF.out) hs
          subst hd
          have HO7 := Lib.hid (ho.mono (B' := w.heap.size) (by have := HGB.out; omega))
          have hnG : u20.ownBlock ≠ some G := fun e => by have := (HO.out.lt _ e).1; have := HGB.out; omega
          have HB7 := Lib.hid (HBD.out.other hg hnG)
          rw [liveP_perm HPF.out] at HB7
          have HW7 : Hid (Below w.heap.size w w7) := Lib.hid (HG.out.b.onGrow hg fun j e => by have := (HO.out.lt _ e).1; have := HGB.out; omega)
          have HNG := Lib.hid hnG
          clear ho hg hp hs hnG
          go_wp2_with fail
          go_ret2
          exact ⟨_, _, rfl, HO7.out, HB7.out, Nat.le_of_lt HGB.out.2, HNG.out, HW7.out⟩
        · intro x cv kl y ps w6 cnt1 hky hlk hR hat hrg1 hlt1 hg1 hs1 hen
          obtain ⟨x', ex, rfl, _⟩ := Maps.keyOf_int_inv Try.underlying3 hky
          injection ex with ex1 ex
          subst ex
          have hso := HX.out.ok x hlk
          obtain ⟨cd, hcd⟩ := Option.isSome_iff_exists.1 hso
          have hv1 := HNM.out x cd hcd (.held cv)
          have hv2 := hat (.held cv)
          have hR' : (DataW.held cv, ([] : List MemPlace)) = (y, ps) := Option.some.inj hR
          injection hR' with hR1 hR2
          have hcv : cv = cdV gr cd := by
            rw [hv1, ← hR1] at hv2
            injection hv2 with h
            exact h.symm
          have HX1 := Lib.hid (HX.out.step hlk hcd)
          have HVD := Lib.hid (HX1.out.valid (c := cd) (by simp))
          have HXL := Lib.hid HX.out.len
          obtain ⟨⟨ki, bk, vr, d0, d1, d2, d3, d4, d5, d6, d7⟩, tm, ci⟩ := cd
          unfold cdV at hcv
          simp only [byV] at hcv
          subst hcv
          have hb1 : Below w.heap.size w w6 := HG.out.b.onGrow hg1 fun j hj => by injection hj with hj; have := HGB.out; have := hRI; omega
          have HRG1 := Lib.hid hrg1
          have HO1 := Lib.hid (HO.out.other hg1 (by
            cases hq : u20.ownBlock with
            | none => exact .inl rfl
            | some j => exact .inr (by intro e; injection e with e; have := (HO.out.lt j hq).1; omega)))
          have HBD1 := Lib.hid (HBD.out.other hg1 (by intro e; injection e with e; have := HGB.out; omega))
          have hlg := HRGx.out.lt
          have hq : ∀ i v, wr.cell? ⟨w.heap.size, i, none⟩ = some v → w6.cell? ⟨w.heap.size, i, none⟩ = some v := fun i v hv => by
            have hb2 := hg1.block w.heap.size (World.block_lt_of_cell? _ _ hv) (fun e => by injection e with e; have := HGB.out; omega)
            unfold World.cell? at hv ⊢
            simp only at hv ⊢
            rw [hb2]
            exact hv
          have HG1 : Hid (GeH w w6 gr nb G) := Lib.hid ⟨hq 0 _ HG.out.q0, hq 1 _ HG.out.q1, HG.out.lt, hb1⟩
          have HLT := Lib.hid (show cnt1 < cnt from hlt1)
          have HS1x := Lib.hid hs1
          have hke := (Below.refl w6.heap.size w6).onAlloc (.cells #[.int .i64 ki, .int .i64 bk, .int .u64 vr, .int .u8 d0.toNat, .int .u8 d1.toNat, .int .u8 d2.toNat, .int .u8 d3.toNat, .int .u8 d4.toNat, .int .u8 d5.toNat, .int .u8 d6.toNat, .int .u8 d7.toNat, .int .i64 (gr + ci), .int .u64 tm] 58)
          have HKE := Lib.hid hke
          clear hso hcd hv1 hv2 hR1 hR2 hR hat hlk hky ex1 hrg1 hg1 hs1 hq hb1 HO HBD HG hke hlt1 HX
          obtain ⟨i0, hi, hz0, hz1, hz2⟩ := info_parts infoFd
          have HO2 := Lib.hid (HO1.out.keep HKE.out)
          have HNF := Lib.hid (newFd (w6.alloc (.cells #[.int .i64 ki, .int .i64 bk, .int .u64 vr, .int .u8 d0.toNat, .int .u8 d1.toNat, .int .u8 d2.toNat, .int .u8 d3.toNat, .int .u8 d4.toNat, .int .u8 d5.toNat, .int .u8 d6.toNat, .int .u8 d7.toNat, .int .i64 (gr + ci), .int .u64 tm] 58)) (w6.heap.size + 1) (by simp) gr ⟨⟨ki, bk, vr, d0, d1, d2, d3, d4, d5, d6, d7⟩, tm, ci⟩)
          have HKN := Lib.hid ((Below.refl (w6.alloc (.cells #[.int .i64 ki, .int .i64 bk, .int .u64 vr, .int .u8 d0.toNat, .int .u8 d1.toNat, .int .u8 d2.toNat, .int .u8 d3.toNat, .int .u8 d4.toNat, .int .u8 d5.toNat, .int .u8 d6.toNat, .int .u8 d7.toNat, .int .i64 (gr + ci), .int .u64 tm] 58)).heap.size (w6.alloc (.cells #[.int .i64 ki, .int .i64 bk, .int .u64 vr, .int .u8 d0.toNat, .int .u8 d1.toNat, .int .u8 d2.toNat, .int .u8 d3.toNat, .int .u8 d4.toNat, .int .u8 d5.toNat, .int .u8 d6.toNat, .int .u8 d7.toNat, .int .i64 (gr + ci), .int .u64 tm] 58))).onAlloc (.cells (fdC gr ⟨⟨ki, bk, vr, d0, d1, d2, d3, d4, d5, d6, d7⟩, tm, ci⟩).toArray 43))
          have hFl : X.length ≤ 65536 := HXL.out
          have hsz8 : RI + 1 ≤ w6.heap.size := by have := HS1x.out; have := HSZ.out; omega
          go_upto_region 25 with (at_builtin; refine wpList_append_x _ rfl _ _ 27 rfl (RI + 1) 43 i0 _ 12 40 Try.underlying27 hi hz0 hz1 hz2 rfl (by decide) _ _ _ rfl (World.ownsRow.alloc HO2.out _) ⟨w6.heap.size + 1, 0, none⟩ 1 1 (fdC gr ⟨⟨ki, bk, vr, d0, d1, d2, d3, d4, d5, d6, d7⟩, tm, ci⟩) rfl rfl HNF.out (by intro u hu; simp [fdC] at hu; rcases hu with rfl | rfl | rfl | rfl | rfl | rfl | rfl | rfl | rfl | rfl | rfl | rfl <;> rfl) (by omega) (by simp [maxLen]; omega) (by simp only [World.size_alloc]; omega) ?_; intro v1 w8 hown1 hgrow1 hwhere1)
          have HO3 := Lib.hid (OwnF.append (m := [⟨⟨ki, bk, vr, d0, d1, d2, d3, d4, d5, d6, d7⟩, tm, ci⟩]) (by simpa using hown1) rfl)
          have hgx := fun j (hj : u20.ownBlock = some j) => HO1.out.lt j hj
          have HB3 : Hid (Below w.heap.size w w8) := Lib.hid (((HG1.out.b.on HKE.out).on HKN.out).onGrow hgrow1 fun j hj => by have := (hgx j hj).1; have := HGB.out; omega)
          have hnG : u20.ownBlock ≠ some G := fun e => by have := (hgx _ e).1; have := HGB.out; omega
          have HBD3 := Lib.hid (((HBD1.out.keep HKE.out).keep HKN.out).other hgrow1 hnG)
          have HRG3 := Lib.hid (((HRG1.out.alloc (.cells #[.int .i64 ki, .int .i64 bk, .int .u64 vr, .int .u8 d0.toNat, .int .u8 d1.toNat, .int .u8 d2.toNat, .int .u8 d3.toNat, .int .u8 d4.toNat, .int .u8 d5.toNat, .int .u8 d6.toNat, .int .u8 d7.toNat, .int .i64 (gr + ci), .int .u64 tm] 58)).alloc (.cells (fdC gr ⟨⟨ki, bk, vr, d0, d1, d2, d3, d4, d5, d6, d7⟩, tm, ci⟩).toArray 43)).kept hgrow1 (fun e => by have := (hgx _ e.symm).1; omega) (fun e => by have := (hgx _ e.symm).1; omega))
          have hne3 : ∀ q, v1.ownBlock = some q → RI + 1 ≤ q := fun q e => (HO3.out.lt q e).1
          have hkc : ∀ (p i : Nat) v, p ≠ w6.heap.size + 2 → (∀ j, u20.ownBlock = some j → j ≠ p) → ((w6.alloc (.cells #[.int .i64 ki, .int .i64 bk, .int .u64 vr, .int .u8 d0.toNat, .int .u8 d1.toNat, .int .u8 d2.toNat, .int .u8 d3.toNat, .int .u8 d4.toNat, .int .u8 d5.toNat, .int .u8 d6.toNat, .int .u8 d7.toNat, .int .i64 (gr + ci), .int .u64 tm] 58)).alloc (.cells (fdC gr ⟨⟨ki, bk, vr, d0, d1, d2, d3, d4, d5, d6, d7⟩, tm, ci⟩).toArray 43)).cell? ⟨p, i, none⟩ = some v → w8.cell? ⟨p, i, none⟩ = some v := fun p i v _ hp h2 => by
            have hb2 := hgrow1.block p (World.block_lt_of_cell? _ _ h2) (fun e => hp _ e.symm rfl)
            unfold World.cell? at h2 ⊢
            simp only at h2 ⊢
            rw [hb2]
            exact h2
          have q0 : w8.cell? ⟨w.heap.size, 0, none⟩ = some (.int .i64 gr) := hkc _ 0 _ (by have := HGB.out; omega) (fun j e => by have := (hgx _ e).1; have := HGB.out; omega) (HKN.out.keep (HKE.out.keep HG1.out.q0))
          have q1 : w8.cell? ⟨w.heap.size, 1, none⟩ = some (.int .i64 nb) := hkc _ 1 _ (by have := HGB.out; omega) (fun j e => by have := (hgx _ e).1; have := HGB.out; omega) (HKN.out.keep (HKE.out.keep HG1.out.q1))
          have t11 : w8.cell? ⟨w6.heap.size, 11, none⟩ = some (.int .i64 (gr + ci)) := hkc _ 11 _ (by omega) (fun j e => by have := (hgx _ e).2; omega) (HKN.out.keep (by rw [World.cell?_alloc_new]; rfl))
          have HG3 : Hid (GeH w w8 gr nb G) := Lib.hid ⟨q0, q1, HG1.out.lt, HB3.out⟩
          have hsz9 : RI + 1 ≤ w8.heap.size := by have := hgrow1.size; simp only [World.size_alloc] at this; omega
          obtain ⟨j, hj⟩ : ∃ j, ci / sz = j := ⟨_, rfl⟩
          have hci0 : (0 : Int) ≤ ci := by omega
          have hciN : ci < N := HVD.out.2.2
          have hjc : j ≤ ci := by rw [← hj]; exact Nat.div_le_self _ _
          have hciM : ci < 65536 := by have := HN.out; have := HMU.out; omega
          have hciU : (ci : Int) ≤ 65536 := by omega
          have hgr1 := HGR.out.1
          have hgr2 := HGR.out.2
          have hwj : IntKind.i64.wrap ((ci : Int) / (sz : Int)) = j := by rw [show (ci : Int) / (sz : Int) = j by rw [← hj]; rfl]; exact IntWalk.i64_in _ (by omega)
          have hsu : gr + (ci : Int) - gr = ci := by omega
          have hws : IntKind.i64.wrap (gr + (ci : Int) - gr) = ci := by rw [hsu]; exact IntWalk.i64_in _ (by omega)
          have hjn : j < nb := by rw [← hj]; exact mul_bd (by have := HS1.out; omega) (by have := HN.out; omega)
          have jb : (j : Int) < nb := by omega
          have jb0 : (0 : Int) ≤ j := by omega
          have hjL : j < (liveP sz (bandsK bl sz nb (ssec S) N) X).length := by rw [liveP_len, bandsK_len]; exact hjn
          obtain ⟨x2, hx2⟩ : ∃ x, (liveP sz (bandsK bl sz nb (ssec S) N) X)[j]? = some x := ⟨_, List.getElem?_eq_getElem hjL⟩
          have hlb := live_bd (by have := HS1.out; omega) hx2
          have HLS := Lib.hid (liveP_snoc sz (bandsK bl sz nb (ssec S) N) X ⟨⟨ki, bk, vr, d0, d1, d2, d3, d4, d5, d6, d7⟩, tm, ci⟩)
          have b1 := (HBD3.out.at_ j x2 hx2).c1
          have bf := HBD3.out.fz
          have HBD4 := Lib.hid (HBD3.out.live hjL hx2)
          have HG4 := Lib.hid (HG3.out.set (j * 4 + 1) (.int .i64 (x2.live + 1)))
          have HO4 := Lib.hid (HO3.out.other (sgrown_setCell w8 ⟨G, j * 4 + 1, none⟩ (.int .i64 (x2.live + 1))) (.inr (fun e => by have := hne3 _ e; have := HGB.out; simp only at *; omega)))
          have HRG4 := Lib.hid (HRG3.out.kept (sgrown_setCell w8 ⟨G, j * 4 + 1, none⟩ (.int .i64 (x2.live + 1))) (by intro e; injection e with e; have := HGB.out; simp only at e; omega) (by intro e; injection e with e; have := HGB.out; simp only at e; omega))
          have hszA : RI + 1 ≤ (w8.setCell ⟨G, j * 4 + 1, none⟩ (.int .i64 (x2.live + 1))).heap.size := by rw [World.size_setCell]; exact hsz9
          have HJE : Hid (liveP sz (bandsK bl sz nb (ssec S) N) (X ++ [⟨⟨ki, bk, vr, d0, d1, d2, d3, d4, d5, d6, d7⟩, tm, ci⟩]) = (liveP sz (bandsK bl sz nb (ssec S) N) X).modify j incB) := Lib.hid (by rw [HLS.out]; simp only [hj])
          have HSA := Lib.hid hszA
          obtain ⟨xu, xl, xa, xw⟩ := x2
          simp only at b1 hlb HBD4 HG4 HO4 HRG4 HSA
          have hl0 := hlb.1
          have hl1 : xl ≤ 65536 := by omega
          have hw4 : IntKind.i64.wrap (xl + 1) = xl + 1 := IntWalk.i64_in _ (by omega)
          clear hown1 hgrow1 hwhere1 hgx hkc hne3 hjL hx2 hlb HBD3 HG3 HO3 hj hjn hsz9 hsz8 hszA hnG HRG3 HO1 HO2 HBD1 HG1 hciN hjc hciM hi hz0 hz1 hz2 hen HRG1
          go_wp2_with fail
          go_roundw
          case rel => exact ⟨_, cnt1, _, HRG4.out, HO4.out, by rw [HJE.out]; exact HBD4.out, HG4.out, HSA.out, HX1⟩
          case measure => rw [HRG4.out.left_eq, HRGx.out.left_eq]; exact HLT.out
end Go.Proofs.Ytbiecglooagmmaa
