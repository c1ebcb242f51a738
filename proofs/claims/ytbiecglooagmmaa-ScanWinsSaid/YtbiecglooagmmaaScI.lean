/-
  The reference's mentioned and Newest.
  Conditions: as each theorem says.
-/
import Derived.Test.YtbiecglooagmmaaScH
namespace Go.Proofs.Ytbiecglooagmmaa
set_option linter.unusedSimpArgs false
set_option linter.unusedVariables false
set_option maxRecDepth 100000
open Go.RowKit

/-- No candidate of the block among the first sectors. -/
def NoneB (S : List SV) (n : Nat) (b : Int) : Prop := ∀ j, j < n → ((secs S).getD j []).length = 37 → ((getL ((((secs S).getD j []).drop 1).take 4) : Nat) : Int) ≠ b
theorem NoneB.best {S : List SV} {n : Nat} {b : Int} (h : NoneB S n b) (bl : Int) : best bl (secs S) b n = none :=
  best_none fun j e t hj hc hb => by
    obtain ⟨h1, h2, _⟩ := cand_some hc
    refine h j hj h1 ?_
    rw [← hb, h2]
    rfl
theorem NoneB.past {S : List SV} {n : Nat} {b : Int} (h : NoneB S S.length b) : NoneB S n b := fun j hj h37 => by
  by_cases hl : j < S.length
  · exact h j hl h37
  · rw [secs_past (by omega)] at h37
    simp at h37
set_option maxHeartbeats 4000000 in
theorem rment_any (S : List SV) (n b : Nat) (a : Option Addr) (c : Nat) (w : World) (hr : RdZ w a S) :
    Calls Try.prog 27 #[.slice a S.length c, .int .i64 n, .int .i64 b] w fun e w' => ∃ r, e = .returned (.bool r) ∧ Hid (r = false → NoneB S n b) ∧ w = w' := by
  have hlen := hr.2.1
  have HR := Lib.hid hr
  clear hr
  go_enter Try.func27, Try.ntmps27
  go_wp2_with fail
  go_loopw [7] (fun i wr => ∃ k : Nat, k ≤ S.length ∧ k ≤ n ∧ i = .int .i64 k ∧ Hid (NoneB S k b) ∧ w = wr) (fun i _ => S.length - (intOf i).toNat)
  case atStart => exact ⟨0, by omega, by omega, rfl, Lib.hid (fun j hj => by omega), rfl⟩
  case round =>
    obtain ⟨k, hk, hkn, rfl, HN, rfl⟩ := hrel
    by_cases hlt : k < S.length
    · by_cases hltn : k < n
      · obtain ⟨bb, o, rfl, hat⟩ := HR.out.at (by omega)
        have h1 := hat k _ (List.getElem?_eq_getElem hlt)
        obtain ⟨hf, hfc⟩ := HR.out.1 _ (List.getElem_mem hlt)
        have HS := Lib.hid (secs_at hlt)
        generalize S[k] = s at *
        clear hat
        by_cases h37 : s.l.length = 37
        · obtain ⟨b2, o2, ha2, _⟩ := hf.at (by omega)
          obtain ⟨sa, sc, sl⟩ := s
          simp only at ha2 hf hfc h37 h1 HS
          subst ha2
          unfold SV.v at h1
          simp only at h1
          rw [h37] at h1
          have HG1 := Lib.hid (fun W h => rget_any ((sl.drop 1).take 4) (some ⟨b2, o2 + 1, none⟩) (sc - 1) W h (by rw [(hf.mid 1 4 (by omega)).2]; omega))
          rw [(hf.mid 1 4 (by omega)).2] at HG1
          have HM1 := Lib.hid (hf.mid 1 4 (by omega)).1
          have l1 := getL_lt ((sl.drop 1).take 4)
          rw [(hf.mid 1 4 (by omega)).2] at l1
          have m1 : IntKind.i64.wrap ((getL ((sl.drop 1).take 4) : Nat) : Int) = ((getL ((sl.drop 1).take 4) : Nat) : Int) := IntWalk.i64_in _ (by omega)
          have hi5 : (5 : Int) ≤ sc := by omega
          have hn1 : ¬ sc = 1 := by omega
          have HQ : Hid (((getL ((sl.drop 1).take 4) : Nat) : Int) ≠ b → NoneB S (k + 1) b) := Lib.hid fun hne j hj h37' => by
            by_cases e : j < k
            · exact HN.out j e h37'
            · obtain rfl : j = k := by omega
              rw [HS.out]
              exact hne
          generalize getL ((sl.drop 1).take 4) = y1 at *
          clear hf l1 hfc
          go_wp2_with fail
          refine (HG1.out _ HM1.out).mono ?_
          rintro e w1 ⟨rfl, rfl⟩
          by_cases hy : y1 = b
          · subst hy
            go_wp2_with fail
            go_ret
            exact ⟨true, rfl, Lib.hid (by simp), rfl⟩
          · have hne : ((y1 : Int) == (b : Int)) = false := by simp; omega
            go_wp2_with fail
            go_roundw
            case rel => exact ⟨k + 1, by omega, by omega, by go_num, Lib.hid (HQ.out (by omega)), by first | rfl | trivial⟩
            case measure => simp [intOf]; omega
        · have hne : ((s.l.length : Int) == 37) = false := by simp; omega
          have HQ : Hid (NoneB S (k + 1) b) := Lib.hid fun j hj h37' => by
            by_cases e : j < k
            · exact HN.out j e h37'
            · obtain rfl : j = k := by omega
              rw [HS.out] at h37'
              exact absurd h37' h37
          clear hf hfc
          go_wp2_with fail
          go_roundw
          case rel => exact ⟨k + 1, by omega, by omega, by go_num, HQ, by first | rfl | trivial⟩
          case measure => simp [intOf]; omega
      · obtain rfl : k = n := by omega
        go_wp2_with fail
        go_ret
        exact ⟨false, rfl, Lib.hid (fun _ => HN.out), rfl⟩
    · have HQ : Hid (NoneB S n b) := Lib.hid (NoneB.past (by rw [show S.length = k by omega]; exact HN.out))
      go_wp2_with fail
      all_goals
        go_ret
        exact ⟨false, rfl, Lib.hid (fun _ => HQ.out), rfl⟩
/-- What Newest holds: the entry, the time, the place. -/
def oE (o : Option Cd) : Ent := (o.map (·.e)).getD zeroE
def oT (o : Option Cd) : Int := (o.map (·.t)).getD 0
def oI (o : Option Cd) : Int := (o.map fun c => (c.i : Int)).getD (-1)
def CEe (W : World) (R : Nat) (e : Ent) : Prop := CE W R (.int .i64 e.kind) (.int .i64 e.block) (.int .u64 e.ver) (byV e.d0) (byV e.d1) (byV e.d2) (byV e.d3) (byV e.d4) (byV e.d5) (byV e.d6) (byV e.d7)
theorem CEe.keep {W W' : World} {R : Nat} {e : Ent} (h : CEe W R e) (hb : Below W.heap.size W W') : CEe W' R e := CE.keep h hb
abbrev setEe (W : World) (R : Nat) (e : Ent) : World := setE W R (.int .i64 e.kind) (.int .i64 e.block) (.int .u64 e.ver) (byV e.d0) (byV e.d1) (byV e.d2) (byV e.d3) (byV e.d4) (byV e.d5) (byV e.d6) (byV e.d7)
theorem CEe.set {W : World} {R : Nat} {u : Ent} (h : CEe W R u) (e : Ent) : CEe (setEe W R e) R e := CE.set h _ _ _ _ _ _ _ _ _ _ _
theorem CEe.other {W : World} {T R : Nat} {u : Ent} (h : CEe W T u) (hT : T ≠ R) (e : Ent) : CEe (setEe W R e) T u := CE.other h hT _ _ _ _ _ _ _ _ _ _ _
theorem CEe.new (w : World) (e : Ent) : CEe (w.alloc (.cells #[.int .i64 e.kind, .int .i64 e.block, .int .u64 e.ver, byV e.d0, byV e.d1, byV e.d2, byV e.d3, byV e.d4, byV e.d5, byV e.d6, byV e.d7] 41)) w.heap.size e := CE.new _ _ _ _ _ _ _ _ _ _ _ _ _
theorem CEe.lt {W : World} {R : Nat} {e : Ent} (h : CEe W R e) : R < W.heap.size := World.block_lt_of_cell? W ⟨R, 0, none⟩ h.c0
structure NwH (w wr : World) (e : Ent) : Prop where
  r : CEe wr w.heap.size zeroE
  t : CEe wr (w.heap.size + 1) e
  b : Below w.heap.size w wr
theorem NwH.later {w W W' : World} {e : Ent} (h : NwH w W e) (hb : Below W.heap.size W W') : NwH w W' e := ⟨h.r.keep hb, h.t.keep hb, h.b.on hb⟩
theorem NwH.set {w W : World} {u : Ent} (h : NwH w W u) (e : Ent) : NwH w (setEe W (w.heap.size + 1) e) e := ⟨h.r.other (by omega) e, h.t.set e, CE.below h.b (by omega) _ _ _ _ _ _ _ _ _ _ _⟩
theorem NwH.fin {w W : World} {u : Ent} (h : NwH w W u) (e : Ent) : CEe (setEe W w.heap.size e) w.heap.size e ∧ Below w.heap.size w (setEe W w.heap.size e) := ⟨h.r.set e, CE.below h.b (Nat.le_refl _) _ _ _ _ _ _ _ _ _ _ _⟩
theorem CE.below' {w W : World} {R : Nat} (h : Below w.heap.size w W) (hR : w.heap.size ≤ R) (v0 v1 v2 v3 v4 v5 v6 v7 v8 v9 v10 : Value) : Below w.heap.size w (setE W R v0 v1 v2 v3 v4 v5 v6 v7 v8 v9 v10) :=
  setL_below hR [v0, v1, v2, v3, v4, v5, v6, v7, v8, v9, v10] W 0 h
def NewP (o : Option Cd) (w : World) (e : Ending) (w' : World) : Prop := e = .returned (.tuple #[(oE o).v, .int .i64 (oI o), .bool o.isSome]) ∧ Below w.heap.size w w'
theorem best_no {bl : Int} {S : List SV} {b : Int} {k : Nat} (hk : k < S.length) (h : candB bl S[k].l = false ∨ (dec S[k].l).1.block ≠ b) : best bl (secs S) b (k + 1) = best bl (secs S) b k := by
  rw [best, secs_at hk]
  rcases h with h | h
  · rw [cand_no h]
  · cases hc : candB bl S[k].l
    · rw [cand_no hc]
    · rw [cand_yes hc]
      simp only [if_neg h]
theorem best_yes {bl : Int} {S : List SV} {b : Int} {k : Nat} (hk : k < S.length) (h : candB bl S[k].l = true) (hb : (dec S[k].l).1.block = b) : best bl (secs S) b (k + 1) = stepC (best bl (secs S) b k) ⟨(dec S[k].l).1, (dec S[k].l).2.1, k⟩ := by
  rw [best, secs_at hk, cand_yes h]
  simp only [if_pos hb]
theorem oI_some (o : Option Cd) : decide (0 ≤ oI o) = o.isSome := by
  cases o with
  | none => rfl
  | some c => simp [oI]
set_option maxHeartbeats 8000000 in
theorem rnew_any (S : List SV) (n b : Nat) (bl : Int) (a : Option Addr) (c : Nat) (w : World) (hr : RdZ w a S) :
    Calls Try.prog 28 #[.slice a S.length c, .int .i64 n, .int .i64 bl, .int .i64 b] w (NewP (best bl (secs S) b n) w) := by
  have hlen := hr.2.1
  have HR := Lib.hid hr
  have hk1 := (Below.refl w.heap.size w).onAlloc (.cells cz11 41)
  have hk2 := (Below.refl (w.alloc (.cells cz11 41)).heap.size (w.alloc (.cells cz11 41))).onAlloc (.cells cz11 41)
  have hn1 := CEe.new w zeroE
  have hn2 := CEe.new (w.alloc (.cells cz11 41)) zeroE
  rw [show (w.alloc (.cells cz11 41)).heap.size = w.heap.size + 1 by simp] at hn2
  have H0 : Hid (NwH w ((w.alloc (.cells cz11 41)).alloc (.cells cz11 41)) zeroE) := Lib.hid ⟨hn1.keep hk2, hn2, hk1.on hk2⟩
  unfold NewP
  clear hr hk1 hk2 hn1 hn2
  go_enter Try.func28, Try.ntmps28
  go_wp2_with fail
  go_loopw [12, 13, 14] (fun t x i wr => ∃ (k : Nat) (o : Option Cd), k ≤ S.length ∧ k ≤ n ∧ i = .int .i64 k ∧ t = .int .u64 (oT o) ∧ x = .int .i64 (oI o) ∧ Hid (best bl (secs S) b k = o) ∧ NwH w wr (oE o)) (fun _ _ i _ => S.length - (intOf i).toNat)
  case atStart => exact ⟨0, none, by omega, by omega, rfl, rfl, rfl, Lib.hid rfl, H0.out⟩
  case round =>
    obtain ⟨k, o, hk, hkn, rfl, rfl, rfl, HO, hh⟩ := hrel
    have HH := Lib.hid hh
    clear hh
    by_cases hlt : k < S.length
    · by_cases hltn : k < n
      · obtain ⟨bb, oo, rfl, hat⟩ := HR.out.at (by omega)
        have h1 := HH.out.b.keep (hat k _ (List.getElem?_eq_getElem hlt))
        have hf := (HR.out.1 _ (List.getElem_mem hlt)).keep HH.out.b
        have HEN := Lib.hid (rentry_any bl S[k].l S[k].a S[k].c wr hf.1 hf.2)
        have HNO := Lib.hid (fun h => best_no (bl := bl) (b := b) hlt h)
        have HYE := Lib.hid (fun h h' => best_yes (bl := bl) (b := b) hlt h h')
        rw [HO.out] at HNO HYE
        have HU := Lib.hid (dec_u64 S[k].l)
        generalize S[k] = s at *
        unfold EntP at HEN
        generalize candB bl s.l = cb at *
        generalize dec s.l = q at *
        obtain ⟨⟨ki, bk, vr, d0, d1, d2, d3, d4, d5, d6, d7⟩, tm, xx⟩ := q
        unfold Ent.v at HEN
        simp only [byV] at HEN HU HNO HYE
        obtain ⟨E, hE⟩ : ∃ E, oE o = E := ⟨_, rfl⟩
        rw [hE] at HH
        have HEo := Lib.hid hE
        clear hat hf hE
        go_wp2_with fail
        refine HEN.out.mono ?_
        rintro e w1 ⟨rfl, hb⟩
        have HH1 := Lib.hid (HH.out.later hb)
        have hka := (Below.refl w1.heap.size w1).onAlloc (.cells #[.int .i64 ki, .int .i64 bk, .int .u64 vr, .int .u8 d0.toNat, .int .u8 d1.toNat, .int .u8 d2.toNat, .int .u8 d3.toNat, .int .u8 d4.toNat, .int .u8 d5.toNat, .int .u8 d6.toNat, .int .u8 d7.toNat] 41)
        have HH2 := Lib.hid (HH1.out.later hka)
        have HE2 := Lib.hid (CEe.new w1 ⟨ki, bk, vr, d0, d1, d2, d3, d4, d5, d6, d7⟩)
        clear hb hka h1 HEN HH HH1
        go_upto_region 8 with fail
        generalize w1.alloc (.cells #[.int .i64 ki, .int .i64 bk, .int .u64 vr, .int .u8 d0.toNat, .int .u8 d1.toNat, .int .u8 d2.toNat, .int .u8 d3.toNat, .int .u8 d4.toNat, .int .u8 d5.toNat, .int .u8 d6.toNat, .int .u8 d7.toNat] 41) = w2 at *
        generalize w1.heap.size = T at *
        have HX : Hid (cb = false ∨ bk ≠ b ∨ (cb = true ∧ bk = b)) := Lib.hid (by cases cb <;> simp; omega)
        rcases HX.out with hx | hx | ⟨hx, hy⟩
        · subst hx
          go_wp2_with fail
          go_roundw
          case rel => exact ⟨k + 1, o, by omega, by omega, by go_num, rfl, rfl, Lib.hid (HNO.out (.inl (by first | rfl | trivial))), by rw [HEo.out]; exact HH2.out⟩
          case measure => simp [intOf]; omega
        · have hne : (bk == (b : Int)) = false := by simpa using hx
          have c0 := HE2.out.c0
          have c1 := HE2.out.c1
          have c2 := HE2.out.c2
          have c3 := HE2.out.c3
          have c4 := HE2.out.c4
          have c5 := HE2.out.c5
          have c6 := HE2.out.c6
          have c7 := HE2.out.c7
          have c8 := HE2.out.c8
          have c9 := HE2.out.c9
          have c10 := HE2.out.c10
          simp only [byV] at c0 c1 c2 c3 c4 c5 c6 c7 c8 c9 c10
          cases cb
          · go_wp2_with fail
            go_roundw
            case rel => exact ⟨k + 1, o, by omega, by omega, by go_num, rfl, rfl, Lib.hid (HNO.out (.inr hx)), by rw [HEo.out]; exact HH2.out⟩
            case measure => simp [intOf]; omega
          · go_wp2_with fail
            go_roundw
            case rel => exact ⟨k + 1, o, by omega, by omega, by go_num, rfl, rfl, Lib.hid (HNO.out (.inr hx)), by rw [HEo.out]; exact HH2.out⟩
            case measure => simp [intOf]; omega
        · subst hx hy
          cases o with
          | none =>
            have hoi : oI none = -1 := rfl
            rw [hoi]
            have c0 := HE2.out.c0
            have c1 := HE2.out.c1
            have c2 := HE2.out.c2
            have c3 := HE2.out.c3
            have c4 := HE2.out.c4
            have c5 := HE2.out.c5
            have c6 := HE2.out.c6
            have c7 := HE2.out.c7
            have c8 := HE2.out.c8
            have c9 := HE2.out.c9
            have c10 := HE2.out.c10
            simp only [byV] at c0 c1 c2 c3 c4 c5 c6 c7 c8 c9 c10
            have g0 := HH2.out.t.c0
            have g1 := HH2.out.t.c1
            have g2 := HH2.out.t.c2
            have g3 := HH2.out.t.c3
            have g4 := HH2.out.t.c4
            have g5 := HH2.out.t.c5
            have g6 := HH2.out.t.c6
            have g7 := HH2.out.t.c7
            have g8 := HH2.out.t.c8
            have g9 := HH2.out.t.c9
            have g10 := HH2.out.t.c10
            have gf := HH2.out.t.f
            go_wp2_with fail
            go_roundw
            case rel => exact ⟨k + 1, _, by omega, by omega, by go_num, rfl, rfl, Lib.hid (HYE.out (by first | rfl | trivial) (by first | rfl | trivial)), HH2.out.set ⟨ki, b, vr, d0, d1, d2, d3, d4, d5, d6, d7⟩⟩
            case measure => simp [intOf]; omega
          | some x =>
            obtain ⟨⟨kx, bx, vx, e0, e1, e2, e3, e4, e5, e6, e7⟩, xt, xi⟩ := x
            have hEE : E = ⟨kx, bx, vx, e0, e1, e2, e3, e4, e5, e6, e7⟩ := HEo.out.symm
            subst hEE
            have hoi : oI (some ⟨⟨kx, bx, vx, e0, e1, e2, e3, e4, e5, e6, e7⟩, xt, xi⟩) = (xi : Int) := rfl
            have hot : oT (some ⟨⟨kx, bx, vx, e0, e1, e2, e3, e4, e5, e6, e7⟩, xt, xi⟩) = xt := rfl
            rw [hoi, hot]
            clear hoi hot HNO HEo HU HX
            have HC : Hid (vx < vr ∨ (vx = vr ∧ xt < tm) ∨ (vx = vr ∧ ¬ xt < tm) ∨ vr < vx) := Lib.hid (by omega)
            rcases HC.out with hv | ⟨hv, ht⟩ | ⟨hv, ht⟩ | hv
            · have hq : decide (vx < vr) = true := by simpa using hv
              have HBS : Hid (best bl (secs S) b (k + 1) = some ⟨⟨ki, b, vr, d0, d1, d2, d3, d4, d5, d6, d7⟩, tm, k⟩) := Lib.hid ((HYE.out (by first | rfl | trivial) (by first | rfl | trivial)).trans (by unfold stepC newer; simp only; rw [if_pos (by simp; omega)]))
              clear HC HYE
              have c0 := HE2.out.c0
              have c1 := HE2.out.c1
              have c2 := HE2.out.c2
              have c3 := HE2.out.c3
              have c4 := HE2.out.c4
              have c5 := HE2.out.c5
              have c6 := HE2.out.c6
              have c7 := HE2.out.c7
              have c8 := HE2.out.c8
              have c9 := HE2.out.c9
              have c10 := HE2.out.c10
              simp only [byV] at c0 c1 c2 c3 c4 c5 c6 c7 c8 c9 c10
              have g0 := HH2.out.t.c0
              have g1 := HH2.out.t.c1
              have g2 := HH2.out.t.c2
              have g3 := HH2.out.t.c3
              have g4 := HH2.out.t.c4
              have g5 := HH2.out.t.c5
              have g6 := HH2.out.t.c6
              have g7 := HH2.out.t.c7
              have g8 := HH2.out.t.c8
              have g9 := HH2.out.t.c9
              have g10 := HH2.out.t.c10
              have gf := HH2.out.t.f
              simp only at g0 g1 g2 g3 g4 g5 g6 g7 g8 g9 g10
              try clear hv
              try clear ht
              go_wp2_with fail
              go_roundw
              case rel => exact ⟨k + 1, _, by omega, by omega, by go_num, rfl, rfl, HBS, HH2.out.set ⟨ki, b, vr, d0, d1, d2, d3, d4, d5, d6, d7⟩⟩
              case measure => simp [intOf]; omega
            · subst hv
              have hq : decide (xt < tm) = true := by simpa using ht
              have HBS : Hid (best bl (secs S) b (k + 1) = some ⟨⟨ki, b, vx, d0, d1, d2, d3, d4, d5, d6, d7⟩, tm, k⟩) := Lib.hid ((HYE.out (by first | rfl | trivial) (by first | rfl | trivial)).trans (by unfold stepC newer; simp only; rw [if_pos (by simp; omega)]))
              clear HC HYE
              have c0 := HE2.out.c0
              have c1 := HE2.out.c1
              have c2 := HE2.out.c2
              have c3 := HE2.out.c3
              have c4 := HE2.out.c4
              have c5 := HE2.out.c5
              have c6 := HE2.out.c6
              have c7 := HE2.out.c7
              have c8 := HE2.out.c8
              have c9 := HE2.out.c9
              have c10 := HE2.out.c10
              simp only [byV] at c0 c1 c2 c3 c4 c5 c6 c7 c8 c9 c10
              have g0 := HH2.out.t.c0
              have g1 := HH2.out.t.c1
              have g2 := HH2.out.t.c2
              have g3 := HH2.out.t.c3
              have g4 := HH2.out.t.c4
              have g5 := HH2.out.t.c5
              have g6 := HH2.out.t.c6
              have g7 := HH2.out.t.c7
              have g8 := HH2.out.t.c8
              have g9 := HH2.out.t.c9
              have g10 := HH2.out.t.c10
              have gf := HH2.out.t.f
              simp only at g0 g1 g2 g3 g4 g5 g6 g7 g8 g9 g10
              try clear hv
              try clear ht
              go_wp2_with fail
              go_roundw
              case rel => exact ⟨k + 1, _, by omega, by omega, by go_num, rfl, rfl, HBS, HH2.out.set ⟨ki, b, vx, d0, d1, d2, d3, d4, d5, d6, d7⟩⟩
              case measure => simp [intOf]; omega
            · subst hv
              have hq : decide (xt < tm) = false := by simpa using ht
              have HBS : Hid (best bl (secs S) b (k + 1) = some ⟨⟨kx, bx, vx, e0, e1, e2, e3, e4, e5, e6, e7⟩, xt, xi⟩) := Lib.hid ((HYE.out (by first | rfl | trivial) (by first | rfl | trivial)).trans (by unfold stepC newer; simp only; rw [if_neg (by simp; omega)]))
              clear HC HYE
              have c0 := HE2.out.c0
              have c1 := HE2.out.c1
              have c2 := HE2.out.c2
              have c3 := HE2.out.c3
              have c4 := HE2.out.c4
              have c5 := HE2.out.c5
              have c6 := HE2.out.c6
              have c7 := HE2.out.c7
              have c8 := HE2.out.c8
              have c9 := HE2.out.c9
              have c10 := HE2.out.c10
              simp only [byV] at c0 c1 c2 c3 c4 c5 c6 c7 c8 c9 c10
              have g0 := HH2.out.t.c0
              have g1 := HH2.out.t.c1
              have g2 := HH2.out.t.c2
              have g3 := HH2.out.t.c3
              have g4 := HH2.out.t.c4
              have g5 := HH2.out.t.c5
              have g6 := HH2.out.t.c6
              have g7 := HH2.out.t.c7
              have g8 := HH2.out.t.c8
              have g9 := HH2.out.t.c9
              have g10 := HH2.out.t.c10
              have gf := HH2.out.t.f
              simp only at g0 g1 g2 g3 g4 g5 g6 g7 g8 g9 g10
              try clear hv
              try clear ht
              go_wp2_with fail
              go_roundw
              case rel => exact ⟨k + 1, _, by omega, by omega, by go_num, rfl, rfl, HBS, HH2.out⟩
              case measure => simp [intOf]; omega
            · have hq : decide (vx < vr) = false := by simp; omega
              have hq2 : (vr == vx) = false := by simp; omega
              have HBS : Hid (best bl (secs S) b (k + 1) = some ⟨⟨kx, bx, vx, e0, e1, e2, e3, e4, e5, e6, e7⟩, xt, xi⟩) := Lib.hid ((HYE.out (by first | rfl | trivial) (by first | rfl | trivial)).trans (by unfold stepC newer; simp only; rw [if_neg (by simp; omega)]))
              clear HC HYE
              have c0 := HE2.out.c0
              have c1 := HE2.out.c1
              have c2 := HE2.out.c2
              have c3 := HE2.out.c3
              have c4 := HE2.out.c4
              have c5 := HE2.out.c5
              have c6 := HE2.out.c6
              have c7 := HE2.out.c7
              have c8 := HE2.out.c8
              have c9 := HE2.out.c9
              have c10 := HE2.out.c10
              simp only [byV] at c0 c1 c2 c3 c4 c5 c6 c7 c8 c9 c10
              have g0 := HH2.out.t.c0
              have g1 := HH2.out.t.c1
              have g2 := HH2.out.t.c2
              have g3 := HH2.out.t.c3
              have g4 := HH2.out.t.c4
              have g5 := HH2.out.t.c5
              have g6 := HH2.out.t.c6
              have g7 := HH2.out.t.c7
              have g8 := HH2.out.t.c8
              have g9 := HH2.out.t.c9
              have g10 := HH2.out.t.c10
              have gf := HH2.out.t.f
              simp only at g0 g1 g2 g3 g4 g5 g6 g7 g8 g9 g10
              try clear hv
              try clear ht
              go_wp2_with fail
              go_roundw
              case rel => exact ⟨k + 1, _, by omega, by omega, by go_num, rfl, rfl, HBS, HH2.out⟩
              case measure => simp [intOf]; omega
      · obtain rfl : k = n := by omega
        have HF : Hid (best bl (secs S) b k = o) := HO
        obtain ⟨E, hE⟩ : ∃ E, oE o = E := ⟨_, rfl⟩
        have HOS := Lib.hid (oI_some o)
        rw [hE] at HH
        have HEo := Lib.hid hE
        clear hE HO HR
        have HT := Lib.hid HH.out.t
        have HRR := Lib.hid HH.out.r
        have HFI := Lib.hid (HH.out.fin E)
        obtain ⟨ki, bk, vr, d0, d1, d2, d3, d4, d5, d6, d7⟩ := E
        have c0 := HT.out.c0
        have c1 := HT.out.c1
        have c2 := HT.out.c2
        have c3 := HT.out.c3
        have c4 := HT.out.c4
        have c5 := HT.out.c5
        have c6 := HT.out.c6
        have c7 := HT.out.c7
        have c8 := HT.out.c8
        have c9 := HT.out.c9
        have c10 := HT.out.c10
        have cf := HT.out.f
        have g0 := HRR.out.c0
        have g1 := HRR.out.c1
        have g2 := HRR.out.c2
        have g3 := HRR.out.c3
        have g4 := HRR.out.c4
        have g5 := HRR.out.c5
        have g6 := HRR.out.c6
        have g7 := HRR.out.c7
        have g8 := HRR.out.c8
        have g9 := HRR.out.c9
        have g10 := HRR.out.c10
        have gf := HRR.out.f
        simp only [byV] at c3 c4 c5 c6 c7 c8 c9 c10
        go_wp2_with fail
        obtain ⟨hj, hjb⟩ := HFI.out
        show bodyPost _ _ _ _ _ (setEe wr w.heap.size ⟨ki, bk, vr, d0, d1, d2, d3, d4, d5, d6, d7⟩)
        clear g0 g1 g2 g3 g4 g5 g6 g7 g8 g9 g10 gf HFI HT HRR HH
        clear c0 c1 c2 c3 c4 c5 c6 c7 c8 c9 c10 cf
        generalize setEe wr w.heap.size ⟨ki, bk, vr, d0, d1, d2, d3, d4, d5, d6, d7⟩ = w3 at *
        have HJ := Lib.hid hj
        have HJB := Lib.hid hjb
        clear hj hjb
        have c0 := HJ.out.c0
        have c1 := HJ.out.c1
        have c2 := HJ.out.c2
        have c3 := HJ.out.c3
        have c4 := HJ.out.c4
        have c5 := HJ.out.c5
        have c6 := HJ.out.c6
        have c7 := HJ.out.c7
        have c8 := HJ.out.c8
        have c9 := HJ.out.c9
        have c10 := HJ.out.c10
        have cf := HJ.out.f
        simp only [byV] at c3 c4 c5 c6 c7 c8 c9 c10
        (try simp only [Exit.inBlock, Exit.then])
        refine bodyPost_ret (v := .tuple #[.agg #[.int .i64 ki, .int .i64 bk, .int .u64 vr, .int .u8 d0.toNat, .int .u8 d1.toNat, .int .u8 d2.toNat, .int .u8 d3.toNat, .int .u8 d4.toNat, .int .u8 d5.toNat, .int .u8 d6.toNat, .int .u8 d7.toNat], .int .i64 (oI o), .bool (decide (0 ≤ oI o))]) (by first | (rw [sres_cell_tmp2 rfl]; go_simp; done) | (rw [sres_cell_one rfl]; go_simp; done)) rfl ?_
        exact ⟨by rw [HF.out, HEo.out, HOS.out], HJB.out⟩
    · have HF : Hid (best bl (secs S) b n = o) := Lib.hid (by rw [best_past (by omega), show S.length = k by omega]; exact HO.out)
      obtain ⟨E, hE⟩ : ∃ E, oE o = E := ⟨_, rfl⟩
      have HOS := Lib.hid (oI_some o)
      rw [hE] at HH
      have HEo := Lib.hid hE
      clear hE HO HR
      have HT := Lib.hid HH.out.t
      have HRR := Lib.hid HH.out.r
      have HFI := Lib.hid (HH.out.fin E)
      obtain ⟨ki, bk, vr, d0, d1, d2, d3, d4, d5, d6, d7⟩ := E
      have c0 := HT.out.c0
      have c1 := HT.out.c1
      have c2 := HT.out.c2
      have c3 := HT.out.c3
      have c4 := HT.out.c4
      have c5 := HT.out.c5
      have c6 := HT.out.c6
      have c7 := HT.out.c7
      have c8 := HT.out.c8
      have c9 := HT.out.c9
      have c10 := HT.out.c10
      have cf := HT.out.f
      have g0 := HRR.out.c0
      have g1 := HRR.out.c1
      have g2 := HRR.out.c2
      have g3 := HRR.out.c3
      have g4 := HRR.out.c4
      have g5 := HRR.out.c5
      have g6 := HRR.out.c6
      have g7 := HRR.out.c7
      have g8 := HRR.out.c8
      have g9 := HRR.out.c9
      have g10 := HRR.out.c10
      have gf := HRR.out.f
      simp only [byV] at c3 c4 c5 c6 c7 c8 c9 c10
      go_wp2_with fail
      obtain ⟨hj, hjb⟩ := HFI.out
      show bodyPost _ _ _ _ _ (setEe wr w.heap.size ⟨ki, bk, vr, d0, d1, d2, d3, d4, d5, d6, d7⟩)
      clear g0 g1 g2 g3 g4 g5 g6 g7 g8 g9 g10 gf HFI HT HRR HH
      clear c0 c1 c2 c3 c4 c5 c6 c7 c8 c9 c10 cf
      generalize setEe wr w.heap.size ⟨ki, bk, vr, d0, d1, d2, d3, d4, d5, d6, d7⟩ = w3 at *
      have HJ := Lib.hid hj
      have HJB := Lib.hid hjb
      clear hj hjb
      have c0 := HJ.out.c0
      have c1 := HJ.out.c1
      have c2 := HJ.out.c2
      have c3 := HJ.out.c3
      have c4 := HJ.out.c4
      have c5 := HJ.out.c5
      have c6 := HJ.out.c6
      have c7 := HJ.out.c7
      have c8 := HJ.out.c8
      have c9 := HJ.out.c9
      have c10 := HJ.out.c10
      have cf := HJ.out.f
      simp only [byV] at c3 c4 c5 c6 c7 c8 c9 c10
      (try simp only [Exit.inBlock, Exit.then])
      refine bodyPost_ret (v := .tuple #[.agg #[.int .i64 ki, .int .i64 bk, .int .u64 vr, .int .u8 d0.toNat, .int .u8 d1.toNat, .int .u8 d2.toNat, .int .u8 d3.toNat, .int .u8 d4.toNat, .int .u8 d5.toNat, .int .u8 d6.toNat, .int .u8 d7.toNat], .int .i64 (oI o), .bool (decide (0 ≤ oI o))]) (by first | (rw [sres_cell_tmp2 rfl]; go_simp; done) | (rw [sres_cell_one rfl]; go_simp; done)) rfl ?_
      exact ⟨by rw [HF.out, HEo.out, HOS.out], HJB.out⟩
end Go.Proofs.Ytbiecglooagmmaa
