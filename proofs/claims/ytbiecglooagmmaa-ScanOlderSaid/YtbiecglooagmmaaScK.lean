/-
  tegularef17.Scan.
  Conditions: as each theorem says.
-/
import Derived.Test.YtbiecglooagmmaaScJ
import Derived.Test.YtbiecglooagmmaaScI
import Derived.Test.YtbiecglooagmmaaScD
import Derived.Lib.MinMax
namespace Go.Proofs.Ytbiecglooagmmaa
set_option linter.unusedSimpArgs false
set_option linter.unusedVariables false
set_option maxRecDepth 100000
open Go.RowKit

/-! ### Found entries -/
def fdC (r : Int) (c : Cd) : List Value := [.int .i64 c.e.kind, .int .i64 c.e.block, .int .u64 c.e.ver, byV c.e.d0, byV c.e.d1, byV c.e.d2, byV c.e.d3, byV c.e.d4, byV c.e.d5, byV c.e.d6, byV c.e.d7, .int .i64 (r + c.i)]
def OwnF (w : World) (B : Nat) (v : Value) (r : Int) (cs : List Cd) : Prop := w.ownsRow B 43 12 v cs.length (cs.flatMap (fdC r))
theorem infoFd : (Try.prog.info? 43).map (fun i => (i.zero, i.size, i.bytes)) = some (some (.agg #[.int .i64 0, .int .i64 0, .int .u64 0, .int .u8 0, .int .u8 0, .int .u8 0, .int .u8 0, .int .u8 0, .int .u8 0, .int .u8 0, .int .u8 0, .int .i64 0]), 12, 40) := by kernel_rfl
theorem OwnF.nil (w : World) (B : Nat) (r : Int) : OwnF w B (.slice none 0 0) r [] := World.ownsRow_nil _ _ _ _
theorem OwnF.lt {w : World} {B : Nat} {v : Value} {r : Int} {l : List Cd} (h : OwnF w B v r l) : ∀ k, v.ownBlock = some k → B ≤ k ∧ k < w.heap.size := World.ownsRow.lt h
theorem OwnF.other {w w' : World} {B : Nat} {v : Value} {r : Int} {l : List Cd} {row : Option Nat} (h : OwnF w B v r l) (hg : w.grownBy w' row) (hne : v.ownBlock = none ∨ v.ownBlock ≠ row) : OwnF w' B v r l :=
  World.ownsRow.kept h hg hne
theorem OwnF.keep {w w' : World} {B : Nat} {v : Value} {r : Int} {l : List Cd} (h : OwnF w B v r l) (hb : Below w.heap.size w w') : OwnF w' B v r l :=
  h.other (row := none) ⟨hb.os, hb.tape, hb.output, hb.size, fun k hk _ => hb.block k hk⟩ (by cases hv : v.ownBlock <;> simp)
theorem OwnF.append {w : World} {B n : Nat} {v : Value} {r : Int} {l m : List Cd} (h : w.ownsRow B 43 12 v n (l.flatMap (fdC r) ++ m.flatMap (fdC r))) (hn : n = l.length + m.length) : OwnF w B v r (l ++ m) := by
  subst hn
  unfold OwnF
  rw [List.flatMap_append, List.length_append]
  exact h
theorem newFd (W : World) (n : Nat) (hn : n = W.heap.size) (r : Int) (c : Cd) : ∀ j u, (fdC r c)[j]? = some u → (W.alloc (.cells (fdC r c).toArray 43)).cell? ((⟨n, 0, none⟩ : Addr).add j) = some u := by
  subst hn
  intro j u hj
  have : ((⟨W.heap.size, 0, none⟩ : Addr).add j) = ⟨W.heap.size, j, none⟩ := by
    by_cases h0 : j = 0
    · subst h0; rfl
    · simp [Addr.add, h0]
  rw [this, World.cell?_alloc_new]
  simpa using hj
theorem foundP_len (bl : Int) (L : List (List UInt8)) (n m : Nat) : (foundP bl L n m).length ≤ m := by
  have := List.length_filterMap_le (fun b => best bl L (b : Nat) n) (List.range m)
  unfold foundP
  rw [List.length_range] at this
  exact this
abbrev ssec (S : List SV) : List Sec := S.map SV.sec
theorem ssec_at {S : List SV} {k : Nat} (h : k < S.length) : (ssec S).getD k ⟨true, []⟩ = S[k].sec := by
  rw [List.getD_eq_getElem?_getD, List.getElem?_map, List.getElem?_eq_getElem h]
  rfl
theorem two_modify {L : List Bd} {j : Nat} {f g h : Bd → Bd} (hx : ∀ x, L[j]? = some x → g (f x) = h x) : (L.modify j f).modify j g = L.modify j h := by
  apply List.ext_getElem?
  intro i
  rw [List.getElem?_modify, List.getElem?_modify, List.getElem?_modify]
  by_cases e : j = i
  · subst e
    cases hq : L[j]? with
    | none => rfl
    | some x => simp [hx x hq]
  · cases hq : L[i]? <;> simp [e]
theorem one_modify {L : List Bd} {j : Nat} {f h : Bd → Bd} (hx : ∀ x, L[j]? = some x → f x = h x) : L.modify j f = L.modify j h := by
  apply List.ext_getElem?
  intro i
  rw [List.getElem?_modify, List.getElem?_modify]
  by_cases e : j = i
  · subst e
    cases hq : L[j]? with
    | none => rfl
    | some x => simp [hx x hq]
  · cases hq : L[i]? <;> simp [e]
theorem no_modify {L : List Bd} {j : Nat} {h : Bd → Bd} (hx : ∀ x, L[j]? = some x → x = h x) : L = L.modify j h := by
  apply List.ext_getElem?
  intro i
  rw [List.getElem?_modify]
  by_cases e : j = i
  · subst e
    cases hq : L[j]? with
    | none => rfl
    | some x => simp [← hx x hq]
  · cases hq : L[i]? <;> simp [e]
theorem sgrown_setCell (w : World) (a : Addr) (u : Value) : w.grownBy (w.setCell a u) (some a.block) :=
  ⟨rfl, rfl, rfl, by simp [World.setCell], fun k hk hne => RowKit.Below.heap_setCell _ _ _ _ (fun e => hne (by rw [e]))⟩
theorem OwnF.mono {w : World} {B B' : Nat} {v : Value} {r : Int} {l : List Cd} (h : OwnF w B v r l) (hB : B' ≤ B) : OwnF w B' v r l :=
  ⟨h.1, h.2.imp id fun ⟨g, cap, cur, hv, hg, q⟩ => ⟨g, cap, cur, hv, Nat.le_trans hB hg, q⟩⟩
theorem live_bd {bl : Int} {sz nb n j : Nat} {S : List Sec} {F : List Cd} {x : Bd} (hs : 0 < sz) (hx : (liveP sz (bandsK bl sz nb S n) F)[j]? = some x) : 0 ≤ x.live ∧ x.live ≤ F.length := by
  rw [liveP_at] at hx
  cases hq : (bandsK bl sz nb S n)[j]? with
  | none => rw [hq] at hx; cases hx
  | some y =>
    rw [hq] at hx
    simp only [Option.map_some, Option.some.injEq] at hx
    subst hx
    have h1 := (bands_used hs n j y hq).1
    have h2 : cntB sz F j ≤ F.length := List.countP_le_length
    simp only
    omega
/-- The geometry's box, the bands' block. -/
structure GeH (w wr : World) (r nb : Int) (G : Nat) : Prop where
  q0 : wr.cell? ⟨w.heap.size, 0, none⟩ = some (.int .i64 r)
  q1 : wr.cell? ⟨w.heap.size, 1, none⟩ = some (.int .i64 nb)
  lt : w.heap.size < G
  b : Below w.heap.size w wr
theorem GeH.later {w W W' : World} {r nb : Int} {G : Nat} (h : GeH w W r nb G) (hb : Below W.heap.size W W') : GeH w W' r nb G := ⟨hb.keep h.q0, hb.keep h.q1, h.lt, h.b.on hb⟩
theorem GeH.set {w W : World} {r nb : Int} {G : Nat} (h : GeH w W r nb G) (i : Nat) (v : Value) : GeH w (W.setCell ⟨G, i, none⟩ v) r nb G :=
  ⟨(World.cell?_setCell_other _ _ _ _ (fun e => by have := (Addr.mk.inj e).1; have := h.lt; omega)).trans h.q0, (World.cell?_setCell_other _ _ _ _ (fun e => by have := (Addr.mk.inj e).1; have := h.lt; omega)).trans h.q1, h.lt, h.b.setCell (Nat.le_of_lt h.lt) _⟩
def ScanP (g : Geo) (nb sz N : Nat) (bl : Int) (S : List SV) (w : World) (e : Ending) (w' : World) : Prop :=
  ∃ v G, e = .returned (.tuple #[v, .slice (some ⟨G, 0, none⟩) nb nb]) ∧ OwnF w' w.heap.size v g.r (foundP bl (secs S) N (capN bl)) ∧ BdR w' G (liveP sz (bandsK bl sz nb (ssec S) N) (foundP bl (secs S) N (capN bl))) ∧ w.heap.size ≤ G ∧ v.ownBlock ≠ some G ∧ Below w.heap.size w w'
theorem mul_bd {k sz nb : Nat} (hs : 0 < sz) (h : k < nb * sz) : k / sz < nb := (Nat.div_lt_iff_lt_mul hs).2 h
set_option maxHeartbeats 8000000 in
theorem rscan_yes (g : Geo) (nb sz : Nat) (bl : Int) (S : List SV) (a : Option Addr) (c : Nat) (w : World) (hg : g.ok = true) (hnb : g.b = (nb : Int)) (hsz : g.size = (sz : Int)) (hr : RdZ w a S) :
    Calls Try.prog 10 #[g.v, .slice a S.length c, .int .i64 bl] w (ScanP g nb sz (min (nb * sz) S.length) bl S w) := by
  have hlen := hr.2.1
  have hbd := Geo.bd hg
  rw [hnb, hsz] at hbd
  have hnb1 : 1 ≤ nb ∧ nb ≤ 64 := by omega
  have hsz1 : 1 ≤ sz ∧ sz ≤ 1024 := by omega
  have hmul : nb * sz ≤ 65536 := by have : ((nb * sz : Nat) : Int) ≤ 65536 := by push_cast; omega
                                    omega
  have HV := Lib.hid (fun W => rgvalid_any g W)
  have HZ := Lib.hid (fun W => rgsize_any g W)
  rw [hg] at HV
  rw [hsz] at HZ
  obtain ⟨gr, gb, gt, gs, go⟩ := g
  simp only at hnb hbd
  subst hnb
  unfold Geo.v at HV HZ ⊢
  simp only at HV HZ ⊢
  have hka := (Below.refl w.heap.size w).onAlloc (.cells #[.int .i64 gr, .int .i64 nb, .int .i64 gt, .int .i64 gs, .int .i64 go] 23)
  have HKA := Lib.hid hka
  have HR := Lib.hid hr
  have hm1 : IntKind.i64.wrap ((nb : Int) * (sz : Int)) = ((nb * sz : Nat) : Int) := by rw [IntWalk.i64_in _ (by push_cast at hmul ⊢; omega)]; push_cast; rfl
  have HMU := Lib.hid hmul
  have HN1 := Lib.hid hnb1
  have HS1 := Lib.hid hsz1
  have HGR : Hid (0 ≤ gr ∧ gr ≤ 16384) := Lib.hid (by omega)
  clear hg hsz hr hka hbd hmul hnb1 hsz1
  go_enter Try.func10, Try.ntmps10
  go_wp2_with fail
  refine (HV.out _).mono ?_
  rintro e w1 ⟨rfl, hb⟩
  have q0 := hb.keep (show (w.alloc (.cells #[.int .i64 gr, .int .i64 nb, .int .i64 gt, .int .i64 gs, .int .i64 go] 23)).cell? ⟨w.heap.size, 0, none⟩ = some (.int .i64 gr) by simp)
  have q1 := hb.keep (show (w.alloc (.cells #[.int .i64 gr, .int .i64 nb, .int .i64 gt, .int .i64 gs, .int .i64 go] 23)).cell? ⟨w.heap.size, 1, none⟩ = some (.int .i64 nb) by simp)
  have q2 := hb.keep (show (w.alloc (.cells #[.int .i64 gr, .int .i64 nb, .int .i64 gt, .int .i64 gs, .int .i64 go] 23)).cell? ⟨w.heap.size, 2, none⟩ = some (.int .i64 gt) by simp)
  have q3 := hb.keep (show (w.alloc (.cells #[.int .i64 gr, .int .i64 nb, .int .i64 gt, .int .i64 gs, .int .i64 go] 23)).cell? ⟨w.heap.size, 3, none⟩ = some (.int .i64 gs) by simp)
  have q4 := hb.keep (show (w.alloc (.cells #[.int .i64 gr, .int .i64 nb, .int .i64 gt, .int .i64 gs, .int .i64 go] 23)).cell? ⟨w.heap.size, 4, none⟩ = some (.int .i64 go) by simp)
  have HB1 := Lib.hid (HKA.out.on hb)
  clear hb HKA
  go_wp2_with fail
  refine (HZ.out _).mono ?_
  rintro e w2 ⟨rfl, hb⟩
  replace q0 := hb.keep q0
  replace q1 := hb.keep q1
  have HB2 := Lib.hid (HB1.out.on hb)
  have HQ0 := Lib.hid q0
  have HQ1 := Lib.hid q1
  have hlt := World.block_lt_of_cell? w2 ⟨w.heap.size, 0, none⟩ q0
  have HLT := Lib.hid hlt
  clear hb q2 q3 q4 HB1 HV HZ hlt
  go_upto_region 7 with (at_make; (refine wpList_make_bd _ rfl _ _ 28 rfl Try.underlying28 _ _ nb rfl rfl (by have := HN1.out; omega) w2.heap.size rfl ?_); intro w3 hbd3 hb3)
  have HG := Lib.hid (GeH.mk (hb3.keep HQ0.out) (hb3.keep HQ1.out) HLT.out (HB2.out.on hb3))
  have HBD := Lib.hid hbd3
  clear q0 q1 hbd3 hb3 HB2 HQ0 HQ1 HLT
  generalize w2.heap.size = G at *
  obtain ⟨N, hN⟩ : ∃ N, min (nb * sz) S.length = N := ⟨_, rfl⟩
  rw [hN]
  have HN := Lib.hid hN
  clear hN
  go_wp2_with fail
  go_loopw [12] (fun i wr => ∃ k : Nat, k ≤ N ∧ i = .int .i64 k ∧ BdR wr G (bandsK bl sz nb (ssec S) k) ∧ GeH w wr gr nb G) (fun i _ => N - (intOf i).toNat)
  case atStart => exact ⟨0, by omega, rfl, HBD.out, HG.out⟩
  case round =>
    obtain ⟨k, hk, rfl, hbdk, hgk⟩ := hrel
    have HBK := Lib.hid hbdk
    have HGK := Lib.hid hgk
    clear hbdk hgk HBD HG
    by_cases hlt : k < N
    · have hk1 : k < nb * sz := by have := HN.out; omega
      have hk2 : k < S.length := by have := HN.out; omega
      obtain ⟨bb, oo, rfl, hat⟩ := HR.out.at (by omega)
      have HAT := Lib.hid (hat k _ (List.getElem?_eq_getElem hk2))
      have h1 := HGK.out.b.keep HAT.out
      have hf := HR.out.1 _ (List.getElem_mem hk2)
      have HEN := Lib.hid (fun W (hb : Below w.heap.size w W) => rentry_any bl S[k].l S[k].a S[k].c W (hf.keep hb).1 hf.2)
      have HSA := Lib.hid (ssec_at hk2)
      obtain ⟨j, hj⟩ : ∃ j, k / sz = j := ⟨_, rfl⟩
      obtain ⟨m, hm⟩ : ∃ m, k % sz = m := ⟨_, rfl⟩
      have d1 : (k : Int) / (sz : Int) = j := by rw [← hj]; rfl
      have d2 : (k : Int) % (sz : Int) = m := by rw [← hm]; rfl
      have z0 : ¬ sz = 0 := by have := HS1.out; omega
      have hjn : j < nb := by rw [← hj]; exact mul_bd (by have := HS1.out; omega) hk1
      have hmb : m < sz := by rw [← hm]; exact Nat.mod_lt _ (by have := HS1.out; omega)
      have jb : (j : Int) < nb := by omega
      have jb0 : (0 : Int) ≤ j := by omega
      have hm2 : (m : Int) ≤ 1024 := by have := HS1.out; omega
      have hm0 : (0 : Int) ≤ m := by omega
      have hk65 : (k : Int) ≤ 65536 := by have := HMU.out; omega
      have hkk : (k : Int) < (nb : Int) * (sz : Int) := by rw [← Int.natCast_mul]; omega
      have hw0 : IntKind.i64.wrap ((k : Int) / (sz : Int)) = j := by rw [d1]; exact IntWalk.i64_in _ (by have := HN1.out; omega)
      have hw1 : IntKind.i64.wrap ((k : Int) % (sz : Int)) = m := by rw [d2]; exact IntWalk.i64_in _ (by omega)
      have HBS : Hid (bandsK bl sz nb (ssec S) (k + 1) = (bandsK bl sz nb (ssec S) k).modify j (upB bl ((m : Int) + 1) S[k].sec)) := Lib.hid (by rw [bandsK, HSA.out, hj, hm])
      have HLB := Lib.hid (bandsK_len bl sz nb (ssec S) k)
      generalize bandsK bl sz nb (ssec S) k = L at *
      generalize S[k] = s at *
      have HF0 := Lib.hid hf.1
      have hjL : j < L.length := by rw [HLB.out]; exact hjn
      obtain ⟨x, hx⟩ : ∃ x, L[j]? = some x := ⟨_, List.getElem?_eq_getElem hjL⟩
      have HX := Lib.hid hx
      have HJL := Lib.hid hjL
      clear hat hf hj hm hjn hmb HSA d1 hx hjL
      obtain ⟨sa, sc, sl⟩ := s
      unfold SV.v at h1 HAT
      unfold SV.sec at HBS
      unfold EntP at HEN
      simp only at h1 HAT HBS HEN HF0
      cases sa with
      | none =>
        have hnl : sl = [] := by
          rcases HF0.out.2 with h | ⟨_, _, h, _⟩
          · exact h
          · cases h
        subst hnl
        have hcb : candB bl [] = false := by unfold candB; rw [dec_long (by simp)]; rfl
        rw [hcb] at HEN
        have HL2 : Hid (bandsK bl sz nb (ssec S) (k + 1) = L) := Lib.hid (by rw [HBS.out]; exact (no_modify fun y _ => by simp [upB]).symm)
        generalize dec [] = q at *
        clear hcb
        go_wp2_with fail
        refine (HEN.out _ HGK.out.b).mono ?_
        rintro e w4 ⟨rfl, hb⟩
        obtain ⟨⟨ki, bk, vr, d0, d1, d2, d3, d4, d5, d6, d7⟩, tm, xx⟩ := q
        unfold Ent.v
        simp only [byV]
        have hk4 := hb.onAlloc (.cells #[.int .i64 ki, .int .i64 bk, .int .u64 vr, .int .u8 d0.toNat, .int .u8 d1.toNat, .int .u8 d2.toNat, .int .u8 d3.toNat, .int .u8 d4.toNat, .int .u8 d5.toNat, .int .u8 d6.toNat, .int .u8 d7.toNat] 41)
        have HB4 := Lib.hid (HBK.out.keep hk4)
        have HG4 := Lib.hid (HGK.out.later hk4)
        clear hb hk4 HBK HGK HEN h1
        go_wp2_with fail
        go_roundw
        case rel => exact ⟨k + 1, by omega, by go_num, by rw [HL2.out]; exact HB4.out, HG4.out⟩
        case measure => simp [intOf]; omega
      | some sad =>
        have hba := HBK.out.at_ j x HX.out
        have b0 := hba.c0
        have bf := HBK.out.fz
        have HL0 := Lib.hid (HBK.out.used HJL.out ((m : Int) + 1))
        have HGS := Lib.hid (HGK.out.set (j * 4) (.int .i64 ((m : Int) + 1)))
        have hw2 : IntKind.i64.wrap ((m : Int) + 1) = (m : Int) + 1 := IntWalk.i64_in _ (by omega)
        have hsd : ∀ (w : World) (n : Nat) (a : Addr) (v : Value), (w.drewN n).setCell a v = (w.setCell a v).drewN n := fun _ _ _ _ => rfl
        go_upto_region 11 with fail
        have h1s := HGS.out.b.keep HAT.out
        refine wp_region_drewN_tail 10 (by kernel_rfl) (by kernel_rfl) ?_
        simp only [List.take_succ_cons, List.take_zero, List.drop_succ_cons, List.drop_zero]
        repeat (quiet_step ((fail)))
        refine wpQuiet_nil ?_
        intro _ hw'
        obtain ⟨nq, hw''⟩ := hw'
        subst hw''
        go_wp2_with fail
        clear hsd h1s
        have HL1 := Lib.hid (HL0.out.keep (below_drewN (Below.refl _ _) nq))
        have HG1 := Lib.hid (HGS.out.later (below_drewN (Below.refl _ _) nq))
        clear b0 bf h1 HL0 HGS hba HBK HGK
        generalize (wr.setCell ⟨G, j * 4, none⟩ (.int .i64 ((m : Int) + 1))).drewN nq = w4 at *
        have HCX : Hid (∀ y, L[j]? = some y → ageS bl sl y.age = if candB bl sl = true then max y.age (dec sl).2.1 else y.age) := Lib.hid fun y _ => by
          unfold ageS
          cases hc : candB bl sl
          · rw [cand_no hc]; rfl
          · rw [cand_yes hc]; rfl
        generalize candB bl sl = cb at *
        generalize dec sl = q at *
        obtain ⟨⟨ki, bk, vr, d0, d1, d2, d3, d4, d5, d6, d7⟩, tm, xx⟩ := q
        unfold Ent.v at HEN
        simp only [byV] at HEN HCX
        refine (HEN.out _ HG1.out.b).mono ?_
        rintro e w5 ⟨rfl, hb⟩
        have hk4 := hb.onAlloc (.cells #[.int .i64 ki, .int .i64 bk, .int .u64 vr, .int .u8 d0.toNat, .int .u8 d1.toNat, .int .u8 d2.toNat, .int .u8 d3.toNat, .int .u8 d4.toNat, .int .u8 d5.toNat, .int .u8 d6.toNat, .int .u8 d7.toNat] 41)
        have HL2 := Lib.hid (HL1.out.keep hk4)
        have HG2 := Lib.hid (HG1.out.later hk4)
        clear hb hk4 HL1 HG1 HEN HAT
        cases cb with
        | false =>
          have HLE : Hid (L.modify j (fun x => ⟨(m : Int) + 1, x.live, x.age, x.wear⟩) = bandsK bl sz nb (ssec S) (k + 1)) := Lib.hid (by rw [HBS.out]; exact one_modify fun y hy => by simp [upB, HCX.out y hy])
          rw [HLE.out] at HL2
          go_wp2_with fail
          go_roundw
          case rel => exact ⟨k + 1, by omega, by go_num, HL2.out, HG2.out⟩
          case measure => simp [intOf]; omega
        | true =>
          have hx2 : (L.modify j fun x => ⟨(m : Int) + 1, x.live, x.age, x.wear⟩)[j]? = some ⟨(m : Int) + 1, x.live, x.age, x.wear⟩ := by rw [List.getElem?_modify, HX.out]; simp
          have b2 := (HL2.out.at_ j _ hx2).c2
          have bf := HL2.out.fz
          have HL3 := Lib.hid (HL2.out.age (j := j) (by rw [List.length_modify]; exact HJL.out) (max x.age tm))
          have HG3 := Lib.hid (HG2.out.set (j * 4 + 2) (.int .u64 (max x.age tm)))
          have HLE : Hid ((L.modify j (fun x => ⟨(m : Int) + 1, x.live, x.age, x.wear⟩)).modify j (fun y => ⟨y.used, y.live, max x.age tm, y.wear⟩) = bandsK bl sz nb (ssec S) (k + 1)) := Lib.hid (by
            rw [HBS.out]
            refine two_modify fun y hy => ?_
            have hyx : y = x := by rw [HX.out] at hy; exact (Option.some.inj hy).symm
            subst hyx
            simp [upB, HCX.out y hy])
          rw [HLE.out] at HL3
          simp only at b2
          obtain ⟨xu, xl, xa, xw⟩ := x
          simp only at b2 HL3 HG3
          have hsd : ∀ (w : World) (n : Nat) (a : Addr) (v : Value), (w.drewN n).setCell a v = (w.setCell a v).drewN n := fun _ _ _ _ => rfl
          clear hx2 HL2 HG2
          go_upto_region 14 with fail
          refine wp_region_drewN_tail 15 (by kernel_rfl) (by kernel_rfl) ?_
          simp only [List.take_succ_cons, List.take_zero, List.drop_succ_cons, List.drop_zero]
          repeat (quiet_step ((fail)))
          refine wpQuiet_nil ?_
          intro _ hw'
          obtain ⟨nq, hw''⟩ := hw'
          subst hw''
          go_wp2_with fail
          go_roundw
          case rel => exact ⟨k + 1, by omega, by go_num, HL3.out.keep (below_drewN (Below.refl _ _) nq), HG3.out.later (below_drewN (Below.refl _ _) nq)⟩
          case measure => simp [intOf]; omega
    · obtain rfl : N = k := by omega
      by_cases hSl : N < S.length
      · have hge : (((nb * sz : Nat) : Int)) ≤ N := by have := HN.out; omega
        rw [Int.natCast_mul] at hge
        go_wp2_with fail
        go_loopw [10, 16] (fun v i wr => ∃ m : Nat, m ≤ capN bl ∧ i = .int .i64 m ∧ OwnF wr (w.heap.size + 1) v gr (foundP bl (secs S) N m) ∧ BdR wr G (liveP sz (bandsK bl sz nb (ssec S) N) (foundP bl (secs S) N m)) ∧ v.ownBlock ≠ some G ∧ GeH w wr gr nb G) (fun _ i _ => capN bl - (intOf i).toNat)
        case atStart => exact ⟨0, by omega, rfl, OwnF.nil _ _ _, HBK.out, by show (none : Option Nat) ≠ some G; simp, HGK.out⟩
        case round =>
          obtain ⟨m, hm, rfl, ho, hbd, hne, hg⟩ := hrel
          have HO := Lib.hid ho
          have HBD := Lib.hid hbd
          have HNE := Lib.hid hne
          have HG := Lib.hid hg
          clear ho hbd hne hg HBK HGK
          by_cases hlt : m < capN bl
          · have hm1 : (m : Int) < bl := by unfold capN at hlt; omega
            have hm2 : (m : Int) < 65536 := by unfold capN at hlt; omega
            have HFS := Lib.hid (foundP_succ bl (secs S) N m)
            have HMN := Lib.hid (rment_any S (nb * sz) m a c wr (HR.out.keep HG.out.b))
            have HNW := Lib.hid (rnew_any S (nb * sz) m bl a c wr (HR.out.keep HG.out.b))
            have hbm : best bl (secs S) m (nb * sz) = best bl (secs S) m N := by rw [best_min, HN.out]
            have HNB : Hid (NoneB S (nb * sz) m → best bl (secs S) m N = none) := Lib.hid fun h => by rw [← hbm]; exact h.best bl
            rw [hbm] at HNW
            have HBS : Hid (∀ cd, best bl (secs S) m N = some cd → cd.i < N) := Lib.hid fun cd h => (best_some h).1
            rw [Int.natCast_mul] at HMN HNW
            unfold NewP at HNW
            have HFL := Lib.hid (foundP_len bl (secs S) N m)
            generalize best bl (secs S) m N = o at *
            generalize foundP bl (secs S) N m = F at *
            clear hbm
            go_wp2_with fail
            refine HMN.out.mono ?_
            rintro e w1 ⟨r, rfl, HRF, rfl⟩
            cases r with
            | false =>
              have HFE : Hid (foundP bl (secs S) N (m + 1) = F) := Lib.hid (by rw [HFS.out, HNB.out (HRF.out (by first | rfl | trivial))]; simp)
              go_wp2_with fail
              go_roundw
              case rel => exact ⟨m + 1, by omega, by go_num, by rw [HFE.out]; exact HO.out, by rw [HFE.out]; exact HBD.out, HNE.out, HG.out⟩
              case measure => simp [intOf]; omega
            | true =>
              go_wp2_with fail
              refine HNW.out.mono ?_
              rintro e w1 ⟨rfl, hb⟩
              have HO1 := Lib.hid (HO.out.keep hb)
              have HBD1 := Lib.hid (HBD.out.keep hb)
              have HG1 := Lib.hid (HG.out.later hb)
              clear hb HO HBD HG HMN HNW
              cases o with
              | none =>
                have HFE : Hid (foundP bl (secs S) N (m + 1) = F) := Lib.hid (by rw [HFS.out]; simp)
                have hk4 := (Below.refl w1.heap.size w1).onAlloc (.cells cz11 41)
                have HO2 := Lib.hid (HO1.out.keep hk4)
                have HBD2 := Lib.hid (HBD1.out.keep hk4)
                have HG2 := Lib.hid (HG1.out.later hk4)
                rw [show (oE none).v = .agg cz11 from rfl, show oI none = -1 from rfl, show (none : Option Cd).isSome = false from rfl]
                clear hk4 HO1 HBD1 HG1
                go_wp2_with fail
                go_roundw
                case rel => exact ⟨m + 1, by omega, by go_num, by rw [HFE.out]; exact HO2.out, by rw [HFE.out]; exact HBD2.out, HNE.out, HG2.out⟩
                case measure => simp [intOf]; omega
              | some cd =>
                have HCI := Lib.hid (HBS.out cd rfl)
                obtain ⟨⟨ki, bk, vr, d0, d1, d2, d3, d4, d5, d6, d7⟩, tm, ci⟩ := cd
                have HFE : Hid (foundP bl (secs S) N (m + 1) = F ++ [⟨⟨ki, bk, vr, d0, d1, d2, d3, d4, d5, d6, d7⟩, tm, ci⟩]) := Lib.hid (by rw [HFS.out]; simp)
                have hk4 := (Below.refl w1.heap.size w1).onAlloc (.cells #[.int .i64 ki, .int .i64 bk, .int .u64 vr, .int .u8 d0.toNat, .int .u8 d1.toNat, .int .u8 d2.toNat, .int .u8 d3.toNat, .int .u8 d4.toNat, .int .u8 d5.toNat, .int .u8 d6.toNat, .int .u8 d7.toNat] 41)
                have HO2 := Lib.hid (HO1.out.keep hk4)
                have HBD2 := Lib.hid (HBD1.out.keep hk4)
                have HG2 := Lib.hid (HG1.out.later hk4)
                have HE2 := Lib.hid (CEe.new w1 ⟨ki, bk, vr, d0, d1, d2, d3, d4, d5, d6, d7⟩)
                rw [show (oE (some ⟨⟨ki, bk, vr, d0, d1, d2, d3, d4, d5, d6, d7⟩, tm, ci⟩)).v = .agg #[.int .i64 ki, .int .i64 bk, .int .u64 vr, .int .u8 d0.toNat, .int .u8 d1.toNat, .int .u8 d2.toNat, .int .u8 d3.toNat, .int .u8 d4.toNat, .int .u8 d5.toNat, .int .u8 d6.toNat, .int .u8 d7.toNat] from rfl, show oI (some ⟨⟨ki, bk, vr, d0, d1, d2, d3, d4, d5, d6, d7⟩, tm, ci⟩) = (ci : Int) from rfl, show (some (⟨⟨ki, bk, vr, d0, d1, d2, d3, d4, d5, d6, d7⟩, tm, ci⟩ : Cd)).isSome = true from rfl]
                clear hk4 HO1 HBD1 HG1
                go_upto_region 21 with fail
                generalize w1.alloc (.cells #[.int .i64 ki, .int .i64 bk, .int .u64 vr, .int .u8 d0.toNat, .int .u8 d1.toNat, .int .u8 d2.toNat, .int .u8 d3.toNat, .int .u8 d4.toNat, .int .u8 d5.toNat, .int .u8 d6.toNat, .int .u8 d7.toNat] 41) = w2 at *
                generalize w1.heap.size = T at *
                have c0 := HE2.out.c0
                have c1 := HE2.out.c1
                have c2 := HE2.out.c2
                have c3 := HE2.out.c3
                have c4 := HE2.out.c4
                have c5 := HE2.out.c5
                have c6 := HE2.out.c6
                have c7 := HE2.out.c7
                have c8 := HE2.out.c8
                have c9 := HE2.out.c9
                have c10 := HE2.out.c10
                simp only [byV] at c0 c1 c2 c3 c4 c5 c6 c7 c8 c9 c10
                have q0 := HG2.out.q0
                obtain ⟨i0, hi, hz0, hz1, hz2⟩ := info_parts infoFd
                have hci : (ci : Int) ≤ 65536 := by have := HCI.out; have := HN.out; have := HMU.out; omega
                have hci0 : (0 : Int) ≤ ci := by omega
                have hgr1 := HGR.out.1
                have hgr2 := HGR.out.2
                have hw3 : IntKind.i64.wrap (gr + (ci : Int)) = gr + ci := IntWalk.i64_in _ (by omega)
                have HNF := Lib.hid (newFd w2 w2.heap.size rfl gr ⟨⟨ki, bk, vr, d0, d1, d2, d3, d4, d5, d6, d7⟩, tm, ci⟩)
                have HKN := Lib.hid ((Below.refl w2.heap.size w2).onAlloc (.cells (fdC gr ⟨⟨ki, bk, vr, d0, d1, d2, d3, d4, d5, d6, d7⟩, tm, ci⟩).toArray 43))
                have hFl : F.length ≤ 65536 := by have := HFL.out; unfold capN at hlt; omega
                go_upto_region 22 with (at_builtin; refine wpList_append_x _ rfl _ _ 27 rfl (w.heap.size + 1) 43 i0 _ 12 40 Try.underlying27 hi hz0 hz1 hz2 rfl (by decide) _ _ _ rfl (World.ownsRow.alloc HO2.out _) ⟨w2.heap.size, 0, none⟩ 1 1 (fdC gr ⟨⟨ki, bk, vr, d0, d1, d2, d3, d4, d5, d6, d7⟩, tm, ci⟩) rfl rfl HNF.out (by intro u hu; simp [fdC] at hu; rcases hu with rfl | rfl | rfl | rfl | rfl | rfl | rfl | rfl | rfl | rfl | rfl | rfl <;> rfl) (by omega) (by simp [maxLen]; omega) (by have h9 := World.block_lt_of_cell? w2 ⟨w.heap.size, 0, none⟩ HG2.out.q0; simp only [World.size_alloc] at *; omega) ?_; intro v1 w3 hown1 hgrow1 hwhere1)
                have ho3 := OwnF.append (m := [⟨⟨ki, bk, vr, d0, d1, d2, d3, d4, d5, d6, d7⟩, tm, ci⟩]) (by simpa using hown1) rfl
                rw [← HFE.out] at ho3
                have HO3 := Lib.hid ho3
                have hgx := fun j (hj : u10.ownBlock = some j) => HO2.out.lt j hj
                have hG2 : G < w2.heap.size := HBD2.out.lt
                have HB3 : Hid (Below w.heap.size w w3) := Lib.hid ((HG2.out.b.on HKN.out).onGrow hgrow1 fun j hj => by have := (hgx j hj).1; omega)
                have HBD3 : Hid (BdR w3 G (liveP sz (bandsK bl sz nb (ssec S) N) F)) := Lib.hid ((HBD2.out.keep HKN.out).other hgrow1 HNE.out)
                have hne3 : v1.ownBlock ≠ some G := by
                  rcases hwhere1 with h | h
                  · rw [h]; exact HNE.out
                  · rw [h]
                    intro e
                    injection e with e
                    rw [World.size_alloc] at e
                    omega
                have HNE3 := Lib.hid hne3
                have hk0 : ∀ i v, w2.cell? ⟨w.heap.size, i, none⟩ = some v → w3.cell? ⟨w.heap.size, i, none⟩ = some v := fun i v h => by
                  have h2 := HKN.out.keep h
                  have hb2 := hgrow1.block w.heap.size (World.block_lt_of_cell? _ _ h2) (fun e => by have := (hgx _ e.symm).1; omega)
                  unfold World.cell? at h2 ⊢
                  simp only at h2 ⊢
                  rw [hb2]
                  exact h2
                have HG3 : Hid (GeH w w3 gr nb G) := Lib.hid ⟨hk0 0 _ HG2.out.q0, hk0 1 _ HG2.out.q1, HG2.out.lt, HB3.out⟩
                obtain ⟨j, hj⟩ : ∃ j, ci / sz = j := ⟨_, rfl⟩
                have hjc : j ≤ ci := by rw [← hj]; exact Nat.div_le_self _ _
                have hwj : IntKind.i64.wrap ((ci : Int) / (sz : Int)) = j := by rw [show (ci : Int) / (sz : Int) = j by rw [← hj]; rfl]; exact IntWalk.i64_in _ (by omega)
                clear hjc
                have z0 : ¬ sz = 0 := by have := HS1.out; omega
                have hjn : j < nb := by rw [← hj]; exact mul_bd (by have := HS1.out; omega) (by have := HCI.out; have := HN.out; omega)
                have jb : (j : Int) < nb := by omega
                have jb0 : (0 : Int) ≤ j := by omega
                have hjL : j < (liveP sz (bandsK bl sz nb (ssec S) N) F).length := by rw [liveP_len, bandsK_len]; exact hjn
                obtain ⟨x, hx⟩ : ∃ x, (liveP sz (bandsK bl sz nb (ssec S) N) F)[j]? = some x := ⟨_, List.getElem?_eq_getElem hjL⟩
                have hlb := live_bd (by have := HS1.out; omega) hx
                have HLS := Lib.hid (liveP_snoc sz (bandsK bl sz nb (ssec S) N) F ⟨⟨ki, bk, vr, d0, d1, d2, d3, d4, d5, d6, d7⟩, tm, ci⟩)
                rw [← HFE.out] at HLS
                have b1 := (HBD3.out.at_ j x hx).c1
                have bf := HBD3.out.fz
                have HBD4 := Lib.hid (HBD3.out.live hjL hx)
                have HG4 := Lib.hid (HG3.out.set (j * 4 + 1) (.int .i64 (x.live + 1)))
                have HO4 := Lib.hid (HO3.out.other (sgrown_setCell w3 ⟨G, j * 4 + 1, none⟩ (.int .i64 (x.live + 1))) (.inr hne3))
                have HJE : Hid (liveP sz (bandsK bl sz nb (ssec S) N) (foundP bl (secs S) N (m + 1)) = (liveP sz (bandsK bl sz nb (ssec S) N) F).modify j incB) := Lib.hid (by rw [HLS.out]; simp only [hj])
                obtain ⟨xu, xl, xa, xw⟩ := x
                simp only at b1 hlb HBD4 HG4 HO4
                have hl0 := hlb.1
                have hl1 : xl ≤ 65536 := by omega
                have hw4 : IntKind.i64.wrap (xl + 1) = xl + 1 := IntWalk.i64_in _ (by omega)
                clear hown1 hgrow1 hwhere1 hgx hk0 hne3 hjL hx hlb HBD3 HG3 HO3 HG2 HBD2 HO2 ho3 hj hjn
                clear c0 c1 c2 c3 c4 c5 c6 c7 c8 c9 c10 q0 hw3 hi hz0 hz1 hz2
                go_wp2_with fail
                go_roundw
                case rel => exact ⟨m + 1, by omega, by go_num, HO4.out, by rw [HJE.out]; exact HBD4.out, HNE3.out, HG4.out⟩
                case measure => simp [intOf]; omega
          · have hmc : m = capN bl := by omega
            by_cases hbl : (m : Int) < bl
            · have hge6 : ¬ ((m : Int) < 65536) := by unfold capN at *; omega
              have HMC := Lib.hid hmc
              clear hmc hm hlt
              go_wp2_with fail
              go_ret2
              refine ⟨_, _, rfl, ?_⟩
              rw [HN.out, ← HMC.out]
              exact ⟨HO.out.mono (Nat.le_succ _), HBD.out, Nat.le_of_lt HG.out.lt, HNE.out, HG.out.b⟩
            · have HMC := Lib.hid hmc
              clear hmc hm hlt
              go_wp2_with fail
              go_ret2
              refine ⟨_, _, rfl, ?_⟩
              rw [HN.out, ← HMC.out]
              exact ⟨HO.out.mono (Nat.le_succ _), HBD.out, Nat.le_of_lt HG.out.lt, HNE.out, HG.out.b⟩
      · go_wp2_with fail
        go_loopw [10, 16] (fun v i wr => ∃ m : Nat, m ≤ capN bl ∧ i = .int .i64 m ∧ OwnF wr (w.heap.size + 1) v gr (foundP bl (secs S) N m) ∧ BdR wr G (liveP sz (bandsK bl sz nb (ssec S) N) (foundP bl (secs S) N m)) ∧ v.ownBlock ≠ some G ∧ GeH w wr gr nb G) (fun _ i _ => capN bl - (intOf i).toNat)
        case atStart => exact ⟨0, by omega, rfl, OwnF.nil _ _ _, HBK.out, by show (none : Option Nat) ≠ some G; simp, HGK.out⟩
        case round =>
          obtain ⟨m, hm, rfl, ho, hbd, hne, hg⟩ := hrel
          have HO := Lib.hid ho
          have HBD := Lib.hid hbd
          have HNE := Lib.hid hne
          have HG := Lib.hid hg
          clear ho hbd hne hg HBK HGK
          by_cases hlt : m < capN bl
          · have hm1 : (m : Int) < bl := by unfold capN at hlt; omega
            have hm2 : (m : Int) < 65536 := by unfold capN at hlt; omega
            have HFS := Lib.hid (foundP_succ bl (secs S) N m)
            have HMN := Lib.hid (rment_any S (nb * sz) m a c wr (HR.out.keep HG.out.b))
            have HNW := Lib.hid (rnew_any S (nb * sz) m bl a c wr (HR.out.keep HG.out.b))
            have hbm : best bl (secs S) m (nb * sz) = best bl (secs S) m N := by rw [best_min, HN.out]
            have HNB : Hid (NoneB S (nb * sz) m → best bl (secs S) m N = none) := Lib.hid fun h => by rw [← hbm]; exact h.best bl
            rw [hbm] at HNW
            have HBS : Hid (∀ cd, best bl (secs S) m N = some cd → cd.i < N) := Lib.hid fun cd h => (best_some h).1
            rw [Int.natCast_mul] at HMN HNW
            unfold NewP at HNW
            have HFL := Lib.hid (foundP_len bl (secs S) N m)
            generalize best bl (secs S) m N = o at *
            generalize foundP bl (secs S) N m = F at *
            clear hbm
            go_wp2_with fail
            refine HMN.out.mono ?_
            rintro e w1 ⟨r, rfl, HRF, rfl⟩
            cases r with
            | false =>
              have HFE : Hid (foundP bl (secs S) N (m + 1) = F) := Lib.hid (by rw [HFS.out, HNB.out (HRF.out (by first | rfl | trivial))]; simp)
              go_wp2_with fail
              go_roundw
              case rel => exact ⟨m + 1, by omega, by go_num, by rw [HFE.out]; exact HO.out, by rw [HFE.out]; exact HBD.out, HNE.out, HG.out⟩
              case measure => simp [intOf]; omega
            | true =>
              go_wp2_with fail
              refine HNW.out.mono ?_
              rintro e w1 ⟨rfl, hb⟩
              have HO1 := Lib.hid (HO.out.keep hb)
              have HBD1 := Lib.hid (HBD.out.keep hb)
              have HG1 := Lib.hid (HG.out.later hb)
              clear hb HO HBD HG HMN HNW
              cases o with
              | none =>
                have HFE : Hid (foundP bl (secs S) N (m + 1) = F) := Lib.hid (by rw [HFS.out]; simp)
                have hk4 := (Below.refl w1.heap.size w1).onAlloc (.cells cz11 41)
                have HO2 := Lib.hid (HO1.out.keep hk4)
                have HBD2 := Lib.hid (HBD1.out.keep hk4)
                have HG2 := Lib.hid (HG1.out.later hk4)
                rw [show (oE none).v = .agg cz11 from rfl, show oI none = -1 from rfl, show (none : Option Cd).isSome = false from rfl]
                clear hk4 HO1 HBD1 HG1
                go_wp2_with fail
                go_roundw
                case rel => exact ⟨m + 1, by omega, by go_num, by rw [HFE.out]; exact HO2.out, by rw [HFE.out]; exact HBD2.out, HNE.out, HG2.out⟩
                case measure => simp [intOf]; omega
              | some cd =>
                have HCI := Lib.hid (HBS.out cd rfl)
                obtain ⟨⟨ki, bk, vr, d0, d1, d2, d3, d4, d5, d6, d7⟩, tm, ci⟩ := cd
                have HFE : Hid (foundP bl (secs S) N (m + 1) = F ++ [⟨⟨ki, bk, vr, d0, d1, d2, d3, d4, d5, d6, d7⟩, tm, ci⟩]) := Lib.hid (by rw [HFS.out]; simp)
                have hk4 := (Below.refl w1.heap.size w1).onAlloc (.cells #[.int .i64 ki, .int .i64 bk, .int .u64 vr, .int .u8 d0.toNat, .int .u8 d1.toNat, .int .u8 d2.toNat, .int .u8 d3.toNat, .int .u8 d4.toNat, .int .u8 d5.toNat, .int .u8 d6.toNat, .int .u8 d7.toNat] 41)
                have HO2 := Lib.hid (HO1.out.keep hk4)
                have HBD2 := Lib.hid (HBD1.out.keep hk4)
                have HG2 := Lib.hid (HG1.out.later hk4)
                have HE2 := Lib.hid (CEe.new w1 ⟨ki, bk, vr, d0, d1, d2, d3, d4, d5, d6, d7⟩)
                rw [show (oE (some ⟨⟨ki, bk, vr, d0, d1, d2, d3, d4, d5, d6, d7⟩, tm, ci⟩)).v = .agg #[.int .i64 ki, .int .i64 bk, .int .u64 vr, .int .u8 d0.toNat, .int .u8 d1.toNat, .int .u8 d2.toNat, .int .u8 d3.toNat, .int .u8 d4.toNat, .int .u8 d5.toNat, .int .u8 d6.toNat, .int .u8 d7.toNat] from rfl, show oI (some ⟨⟨ki, bk, vr, d0, d1, d2, d3, d4, d5, d6, d7⟩, tm, ci⟩) = (ci : Int) from rfl, show (some (⟨⟨ki, bk, vr, d0, d1, d2, d3, d4, d5, d6, d7⟩, tm, ci⟩ : Cd)).isSome = true from rfl]
                clear hk4 HO1 HBD1 HG1
                go_upto_region 21 with fail
                generalize w1.alloc (.cells #[.int .i64 ki, .int .i64 bk, .int .u64 vr, .int .u8 d0.toNat, .int .u8 d1.toNat, .int .u8 d2.toNat, .int .u8 d3.toNat, .int .u8 d4.toNat, .int .u8 d5.toNat, .int .u8 d6.toNat, .int .u8 d7.toNat] 41) = w2 at *
                generalize w1.heap.size = T at *
                have c0 := HE2.out.c0
                have c1 := HE2.out.c1
                have c2 := HE2.out.c2
                have c3 := HE2.out.c3
                have c4 := HE2.out.c4
                have c5 := HE2.out.c5
                have c6 := HE2.out.c6
                have c7 := HE2.out.c7
                have c8 := HE2.out.c8
                have c9 := HE2.out.c9
                have c10 := HE2.out.c10
                simp only [byV] at c0 c1 c2 c3 c4 c5 c6 c7 c8 c9 c10
                have q0 := HG2.out.q0
                obtain ⟨i0, hi, hz0, hz1, hz2⟩ := info_parts infoFd
                have hci : (ci : Int) ≤ 65536 := by have := HCI.out; have := HN.out; have := HMU.out; omega
                have hci0 : (0 : Int) ≤ ci := by omega
                have hgr1 := HGR.out.1
                have hgr2 := HGR.out.2
                have hw3 : IntKind.i64.wrap (gr + (ci : Int)) = gr + ci := IntWalk.i64_in _ (by omega)
                have HNF := Lib.hid (newFd w2 w2.heap.size rfl gr ⟨⟨ki, bk, vr, d0, d1, d2, d3, d4, d5, d6, d7⟩, tm, ci⟩)
                have HKN := Lib.hid ((Below.refl w2.heap.size w2).onAlloc (.cells (fdC gr ⟨⟨ki, bk, vr, d0, d1, d2, d3, d4, d5, d6, d7⟩, tm, ci⟩).toArray 43))
                have hFl : F.length ≤ 65536 := by have := HFL.out; unfold capN at hlt; omega
                go_upto_region 22 with (at_builtin; refine wpList_append_x _ rfl _ _ 27 rfl (w.heap.size + 1) 43 i0 _ 12 40 Try.underlying27 hi hz0 hz1 hz2 rfl (by decide) _ _ _ rfl (World.ownsRow.alloc HO2.out _) ⟨w2.heap.size, 0, none⟩ 1 1 (fdC gr ⟨⟨ki, bk, vr, d0, d1, d2, d3, d4, d5, d6, d7⟩, tm, ci⟩) rfl rfl HNF.out (by intro u hu; simp [fdC] at hu; rcases hu with rfl | rfl | rfl | rfl | rfl | rfl | rfl | rfl | rfl | rfl | rfl | rfl <;> rfl) (by omega) (by simp [maxLen]; omega) (by have h9 := World.block_lt_of_cell? w2 ⟨w.heap.size, 0, none⟩ HG2.out.q0; simp only [World.size_alloc] at *; omega) ?_; intro v1 w3 hown1 hgrow1 hwhere1)
                have ho3 := OwnF.append (m := [⟨⟨ki, bk, vr, d0, d1, d2, d3, d4, d5, d6, d7⟩, tm, ci⟩]) (by simpa using hown1) rfl
                rw [← HFE.out] at ho3
                have HO3 := Lib.hid ho3
                have hgx := fun j (hj : u10.ownBlock = some j) => HO2.out.lt j hj
                have hG2 : G < w2.heap.size := HBD2.out.lt
                have HB3 : Hid (Below w.heap.size w w3) := Lib.hid ((HG2.out.b.on HKN.out).onGrow hgrow1 fun j hj => by have := (hgx j hj).1; omega)
                have HBD3 : Hid (BdR w3 G (liveP sz (bandsK bl sz nb (ssec S) N) F)) := Lib.hid ((HBD2.out.keep HKN.out).other hgrow1 HNE.out)
                have hne3 : v1.ownBlock ≠ some G := by
                  rcases hwhere1 with h | h
                  · rw [h]; exact HNE.out
                  · rw [h]
                    intro e
                    injection e with e
                    rw [World.size_alloc] at e
                    omega
                have HNE3 := Lib.hid hne3
                have hk0 : ∀ i v, w2.cell? ⟨w.heap.size, i, none⟩ = some v → w3.cell? ⟨w.heap.size, i, none⟩ = some v := fun i v h => by
                  have h2 := HKN.out.keep h
                  have hb2 := hgrow1.block w.heap.size (World.block_lt_of_cell? _ _ h2) (fun e => by have := (hgx _ e.symm).1; omega)
                  unfold World.cell? at h2 ⊢
                  simp only at h2 ⊢
                  rw [hb2]
                  exact h2
                have HG3 : Hid (GeH w w3 gr nb G) := Lib.hid ⟨hk0 0 _ HG2.out.q0, hk0 1 _ HG2.out.q1, HG2.out.lt, HB3.out⟩
                obtain ⟨j, hj⟩ : ∃ j, ci / sz = j := ⟨_, rfl⟩
                have hjc : j ≤ ci := by rw [← hj]; exact Nat.div_le_self _ _
                have hwj : IntKind.i64.wrap ((ci : Int) / (sz : Int)) = j := by rw [show (ci : Int) / (sz : Int) = j by rw [← hj]; rfl]; exact IntWalk.i64_in _ (by omega)
                clear hjc
                have z0 : ¬ sz = 0 := by have := HS1.out; omega
                have hjn : j < nb := by rw [← hj]; exact mul_bd (by have := HS1.out; omega) (by have := HCI.out; have := HN.out; omega)
                have jb : (j : Int) < nb := by omega
                have jb0 : (0 : Int) ≤ j := by omega
                have hjL : j < (liveP sz (bandsK bl sz nb (ssec S) N) F).length := by rw [liveP_len, bandsK_len]; exact hjn
                obtain ⟨x, hx⟩ : ∃ x, (liveP sz (bandsK bl sz nb (ssec S) N) F)[j]? = some x := ⟨_, List.getElem?_eq_getElem hjL⟩
                have hlb := live_bd (by have := HS1.out; omega) hx
                have HLS := Lib.hid (liveP_snoc sz (bandsK bl sz nb (ssec S) N) F ⟨⟨ki, bk, vr, d0, d1, d2, d3, d4, d5, d6, d7⟩, tm, ci⟩)
                rw [← HFE.out] at HLS
                have b1 := (HBD3.out.at_ j x hx).c1
                have bf := HBD3.out.fz
                have HBD4 := Lib.hid (HBD3.out.live hjL hx)
                have HG4 := Lib.hid (HG3.out.set (j * 4 + 1) (.int .i64 (x.live + 1)))
                have HO4 := Lib.hid (HO3.out.other (sgrown_setCell w3 ⟨G, j * 4 + 1, none⟩ (.int .i64 (x.live + 1))) (.inr hne3))
                have HJE : Hid (liveP sz (bandsK bl sz nb (ssec S) N) (foundP bl (secs S) N (m + 1)) = (liveP sz (bandsK bl sz nb (ssec S) N) F).modify j incB) := Lib.hid (by rw [HLS.out]; simp only [hj])
                obtain ⟨xu, xl, xa, xw⟩ := x
                simp only at b1 hlb HBD4 HG4 HO4
                have hl0 := hlb.1
                have hl1 : xl ≤ 65536 := by omega
                have hw4 : IntKind.i64.wrap (xl + 1) = xl + 1 := IntWalk.i64_in _ (by omega)
                clear hown1 hgrow1 hwhere1 hgx hk0 hne3 hjL hx hlb HBD3 HG3 HO3 HG2 HBD2 HO2 ho3 hj hjn
                clear c0 c1 c2 c3 c4 c5 c6 c7 c8 c9 c10 q0 hw3 hi hz0 hz1 hz2
                go_wp2_with fail
                go_roundw
                case rel => exact ⟨m + 1, by omega, by go_num, HO4.out, by rw [HJE.out]; exact HBD4.out, HNE3.out, HG4.out⟩
                case measure => simp [intOf]; omega
          · have hmc : m = capN bl := by omega
            by_cases hbl : (m : Int) < bl
            · have hge6 : ¬ ((m : Int) < 65536) := by unfold capN at *; omega
              have HMC := Lib.hid hmc
              clear hmc hm hlt
              go_wp2_with fail
              go_ret2
              refine ⟨_, _, rfl, ?_⟩
              rw [HN.out, ← HMC.out]
              exact ⟨HO.out.mono (Nat.le_succ _), HBD.out, Nat.le_of_lt HG.out.lt, HNE.out, HG.out.b⟩
            · have HMC := Lib.hid hmc
              clear hmc hm hlt
              go_wp2_with fail
              go_ret2
              refine ⟨_, _, rfl, ?_⟩
              rw [HN.out, ← HMC.out]
              exact ⟨HO.out.mono (Nat.le_succ _), HBD.out, Nat.le_of_lt HG.out.lt, HNE.out, HG.out.b⟩
end Go.Proofs.Ytbiecglooagmmaa
