/-
  Scan of no geometry; Same, Live, Valid of the references; fair, with.
  Conditions: as each theorem says.
-/
import Derived.Test.YtbiecglooagmmaaScN
import Derived.Test.YtbiecglooagmmaaScG
namespace Go.Proofs.Ytbiecglooagmmaa
set_option linter.unusedSimpArgs false
set_option linter.unusedVariables false
set_option maxRecDepth 100000
open Go.RowKit Go.Maps

theorem size_no {g : Geo} (h : g.ok = false) : g.size = 0 := by unfold Geo.size; rw [h]; rfl
set_option maxHeartbeats 4000000 in
theorem pscan_no (g : Geo) (bl : Int) (n c : Nat) (a : Option Addr) (w : World) (hg : g.ok = false) :
    Calls Try.prog 9 #[g.v, .slice a n c, .int .i64 bl] w fun e w' => e = .returned (.tuple #[.slice none 0 0, .slice none 0 0]) ∧ Below w.heap.size w w' := by
  have HZ := Lib.hid (fun W => gsize_any g W)
  rw [size_no hg] at HZ
  obtain ⟨gr, gb, gt, gs, go⟩ := g
  unfold Geo.v at HZ ⊢
  simp only at HZ ⊢
  have HKA := Lib.hid ((Below.refl w.heap.size w).onAlloc (.cells #[.int .i64 gr, .int .i64 gb, .int .i64 gt, .int .i64 gs, .int .i64 go] 23))
  clear hg
  go_enter Try.func9, Try.ntmps9
  go_wp2_with fail
  refine (HZ.out _).mono ?_
  rintro e w2 ⟨rfl, hb⟩
  go_wp2_with fail
  go_ret2
  exact ⟨rfl, HKA.out.on hb⟩
set_option maxHeartbeats 4000000 in
theorem rscan_no (g : Geo) (bl : Int) (n c : Nat) (a : Option Addr) (w : World) (hg : g.ok = false) :
    Calls Try.prog 10 #[g.v, .slice a n c, .int .i64 bl] w fun e w' => e = .returned (.tuple #[.slice none 0 0, .slice none 0 0]) ∧ Below w.heap.size w w' := by
  have HZ := Lib.hid (fun W => rgvalid_any g W)
  rw [hg] at HZ
  obtain ⟨gr, gb, gt, gs, go⟩ := g
  unfold Geo.v at HZ ⊢
  simp only at HZ ⊢
  have HKA := Lib.hid ((Below.refl w.heap.size w).onAlloc (.cells #[.int .i64 gr, .int .i64 gb, .int .i64 gt, .int .i64 gs, .int .i64 go] 23))
  clear hg
  go_enter Try.func10, Try.ntmps10
  go_wp2_with fail
  refine (HZ.out _).mono ?_
  rintro e w2 ⟨rfl, hb⟩
  go_wp2_with fail
  go_ret2
  exact ⟨rfl, HKA.out.on hb⟩
/-- The slice reads as these found entries (of the place r). -/
def RdFd (w : World) (a : Option Addr) (r : Int) (cs : List Cd) : Prop := cs.length ≤ 65536 ∧ (cs = [] ∨ ∃ b, a = some ⟨b, 0, none⟩ ∧ ∀ k c, cs[k]? = some c → ∀ j u, (fdC r c)[j]? = some u → w.cell? ⟨b, k * 12 + j, none⟩ = some u)
theorem RdFd.keep {w w' : World} {a : Option Addr} {r : Int} {cs : List Cd} (h : RdFd w a r cs) (hb : Below w.heap.size w w') : RdFd w' a r cs :=
  ⟨h.1, h.2.imp id fun ⟨b, ha, hat⟩ => ⟨b, ha, fun k c hk j u hj => hb.keep (hat k c hk j u hj)⟩⟩
theorem OwnF.rd {w : World} {B : Nat} {v : Value} {r : Int} {cs : List Cd} (h : OwnF w B v r cs) (hl : cs.length ≤ 65536) : ∃ a c, v = .slice a cs.length c ∧ RdFd w a r cs := by
  rcases h.2 with ⟨rfl, hn⟩ | ⟨g, cap, cur, rfl, _⟩
  · obtain rfl := List.eq_nil_of_length_eq_zero hn
    exact ⟨_, _, rfl, by simp, .inl rfl⟩
  · refine ⟨_, _, rfl, hl, .inr ⟨g, rfl, fun k c hk j u hj => ?_⟩⟩
    have hk' : k < cs.length := (List.getElem?_eq_some_iff.1 hk).1
    have hj' : j < 12 := by have := (List.getElem?_eq_some_iff.1 hj).1; simpa [fdC] using this
    rw [World.ownsRow.cellAt (cap := cap) h _ (by omega), sflat_get (fdC r) 12 (fun _ => rfl) cs k c hk j hj']
    exact hj
theorem arr_self (d0 d1 d2 d3 d4 d5 d6 d7 : UInt8) (d : Nat) (W : World) : (Op.equalIn (d + 2) 39 (.agg #[.int .u8 d0.toNat, .int .u8 d1.toNat, .int .u8 d2.toNat, .int .u8 d3.toNat, .int .u8 d4.toNat, .int .u8 d5.toNat, .int .u8 d6.toNat, .int .u8 d7.toNat]) (.agg #[.int .u8 d0.toNat, .int .u8 d1.toNat, .int .u8 d2.toNat, .int .u8 d3.toNat, .int .u8 d4.toNat, .int .u8 d5.toNat, .int .u8 d6.toNat, .int .u8 d7.toNat])).run Try.prog W = .ok true W := by
  have h := arr_equalIn #[d0, d1, d2, d3, d4, d5, d6, d7] #[d0, d1, d2, d3, d4, d5, d6, d7] rfl rfl d W
  simp only [List.map_toArray, List.map_cons, List.map_nil, byV, beq_self_eq_true] at h
  exact h
set_option maxHeartbeats 4000000 in
/-- The same entries, or not: at equal lists it says yes. -/
theorem rsame_yes (r : Int) (cs : List Cd) (a b : Option Addr) (c d : Nat) (w : World) (ha : RdFd w a r cs) (hb : RdFd w b r cs) :
    Calls Try.prog 11 #[.slice a cs.length c, .slice b cs.length d] w fun e w' => e = .returned (.bool true) ∧ Below w.heap.size w w' := by
  have hl := ha.1
  have HA := Lib.hid ha
  have HB := Lib.hid hb
  clear ha hb
  go_enter Try.func11, Try.ntmps11
  go_wp2_with fail
  go_loopw [5] (fun i wr => ∃ k : Nat, k ≤ cs.length ∧ i = .int .i64 k ∧ Below w.heap.size w wr) (fun i _ => cs.length - (intOf i).toNat)
  case atStart => exact ⟨0, by omega, rfl, Below.refl _ _⟩
  case round =>
    obtain ⟨k, hk, rfl, hBk⟩ := hrel
    by_cases hlt : k < cs.length
    · obtain ⟨g, rfl, hat⟩ := (HA.out.keep hBk).2.resolve_left (by intro e; rw [e] at hlt; simp at hlt)
      obtain ⟨g', rfl, hat'⟩ := (HB.out.keep hBk).2.resolve_left (by intro e; rw [e] at hlt; simp at hlt)
      have h1 := hat k _ (List.getElem?_eq_getElem hlt)
      have h2 := hat' k _ (List.getElem?_eq_getElem hlt)
      have HBk := Lib.hid hBk
      generalize cs[k] = x at *
      obtain ⟨⟨ki, bk, vr, d0, d1, d2, d3, d4, d5, d6, d7⟩, tm, ci⟩ := x
      unfold fdC at h1 h2
      simp only [byV] at h1 h2
      have a0 := h1 0 _ rfl
      have a1 := h1 1 _ rfl
      have a2 := h1 2 _ rfl
      have a3 := h1 3 _ rfl
      have a4 := h1 4 _ rfl
      have a5 := h1 5 _ rfl
      have a6 := h1 6 _ rfl
      have a7 := h1 7 _ rfl
      have a8 := h1 8 _ rfl
      have a9 := h1 9 _ rfl
      have a10 := h1 10 _ rfl
      have a11 := h1 11 _ rfl
      have b0 := h2 0 _ rfl
      have b1 := h2 1 _ rfl
      have b2 := h2 2 _ rfl
      have b3 := h2 3 _ rfl
      have b4 := h2 4 _ rfl
      have b5 := h2 5 _ rfl
      have b6 := h2 6 _ rfl
      have b7 := h2 7 _ rfl
      have b8 := h2 8 _ rfl
      have b9 := h2 9 _ rfl
      have b10 := h2 10 _ rfl
      have b11 := h2 11 _ rfl
      simp only [Nat.add_zero] at a0 b0
      clear h1 h2 hat hat' hBk
      have hqa := arr_self d0 d1 d2 d3 d4 d5 d6 d7 9996
      simp only [Nat.reduceAdd] at hqa
      have hk1 : (k : Int) < cs.length := by omega
      have hk0 : (0 : Int) ≤ k := by omega
      go_wp2_with fail
      refine wp_region_next (by kernel_rfl) (by kernel_rfl) ?_
      repeat (go_big_quiet_step (fail))
      refine wpQuiet_nil ?_
      intro _ hw'
      obtain ⟨nq, hw''⟩ := hw'
      subst hw''
      go_wp2_with fail
      go_roundw
      case rel => exact ⟨k + 1, by omega, by go_num, HBk.out.onNext _⟩
      case measure => simp [intOf]; omega
    · obtain rfl : k = cs.length := by omega
      go_wp2_with fail
      go_ret
      exact ⟨rfl, hBk⟩
/-- The slice reads as these bands. -/
def RdBd (w : World) (g : Nat) (L : List Bd) : Prop := L.length ≤ 65536 ∧ BdR w g L
set_option maxHeartbeats 4000000 in
theorem bsame_yes (L : List Bd) (g g' : Nat) (c d : Nat) (w : World) (hl : L.length ≤ 65536) (ha : BdR w g L) (hb : BdR w g' L) :
    Calls Try.prog 12 #[.slice (some ⟨g, 0, none⟩) L.length c, .slice (some ⟨g', 0, none⟩) L.length d] w fun e w' => e = .returned (.bool true) ∧ Below w.heap.size w w' := by
  have HA := Lib.hid ha
  have HB := Lib.hid hb
  clear ha hb
  go_enter Try.func12, Try.ntmps12
  go_wp2_with fail
  go_loopw [5] (fun i wr => ∃ k : Nat, k ≤ L.length ∧ i = .int .i64 k ∧ Below w.heap.size w wr) (fun i _ => L.length - (intOf i).toNat)
  case atStart => exact ⟨0, by omega, rfl, Below.refl _ _⟩
  case round =>
    obtain ⟨k, hk, rfl, hBk⟩ := hrel
    by_cases hlt : k < L.length
    · have hat := (HA.out.keep hBk).at_ k _ (List.getElem?_eq_getElem hlt)
      have hat' := (HB.out.keep hBk).at_ k _ (List.getElem?_eq_getElem hlt)
      have HBk := Lib.hid hBk
      generalize L[k] = x at *
      obtain ⟨xu, xl, xa, xw⟩ := x
      have a0 := hat.c0
      have a1 := hat.c1
      have a2 := hat.c2
      have a3 := hat.c3
      have b0 := hat'.c0
      have b1 := hat'.c1
      have b2 := hat'.c2
      have b3 := hat'.c3
      simp only at a0 a1 a2 a3 b0 b1 b2 b3
      clear hat hat' hBk
      have hk1 : (k : Int) < L.length := by omega
      have hk0 : (0 : Int) ≤ k := by omega
      go_wp2_with fail
      refine wp_region_next (by kernel_rfl) (by kernel_rfl) ?_
      repeat (go_big_quiet_step (fail))
      refine wpQuiet_nil ?_
      intro _ hw'
      obtain ⟨nq, hw''⟩ := hw'
      subst hw''
      go_wp2_with fail
      go_roundw
      case rel => exact ⟨k + 1, by omega, by go_num, HBk.out.onNext _⟩
      case measure => simp [intOf]; omega
    · obtain rfl : k = L.length := by omega
      go_wp2_with fail
      go_ret
      exact ⟨rfl, hBk⟩
set_option maxHeartbeats 4000000 in
theorem rsize_any (g : Geo) (q : Int) (w : World) (hq : (if g.ok then g.r + g.b * g.size else 0) = q) : Calls Try.prog 20 #[g.v] w fun e w' => e = .returned (.int .i64 q) ∧ Below w.heap.size w w' := by
  have HV := Lib.hid (fun W => rgvalid_any g W)
  have HZ := Lib.hid (fun W => rgsize_any g W)
  have HKA := Lib.hid (fun C => (Below.refl w.heap.size w).onAlloc (.cells C 23))
  cases hg : g.ok
  · rw [hg] at HV hq
    obtain ⟨gr, gb, gt, gs, go⟩ := g
    unfold Geo.v at HV HZ ⊢
    simp only at HV HZ hq ⊢
    obtain rfl : 0 = q := by simpa using hq
    clear hg hq HZ
    go_enter Try.func20, Try.ntmps20
    go_wp2_with fail
    refine (HV.out _).mono ?_
    rintro e w2 ⟨rfl, hb⟩
    go_wp2_with fail
    go_ret
    exact ⟨rfl, (HKA.out _).on hb⟩
  · have hbd := Geo.bd hg
    rw [hg] at HV hq
    obtain ⟨gr, gb, gt, gs, go⟩ := g
    unfold Geo.v at HV HZ ⊢
    simp only at HV HZ hq hbd ⊢
    generalize Geo.size ⟨gr, gb, gt, gs, go⟩ = sz at *
    have hq2 : gr + gb * sz = q := by simpa using hq
    have q0 : (w.alloc (.cells #[.int .i64 gr, .int .i64 gb, .int .i64 gt, .int .i64 gs, .int .i64 go] 23)).cell? ⟨w.heap.size, 0, none⟩ = some (.int .i64 gr) := by simp
    have q1 : (w.alloc (.cells #[.int .i64 gr, .int .i64 gb, .int .i64 gt, .int .i64 gs, .int .i64 go] 23)).cell? ⟨w.heap.size, 1, none⟩ = some (.int .i64 gb) := by simp
    have q2 : (w.alloc (.cells #[.int .i64 gr, .int .i64 gb, .int .i64 gt, .int .i64 gs, .int .i64 go] 23)).cell? ⟨w.heap.size, 2, none⟩ = some (.int .i64 gt) := by simp
    have q3 : (w.alloc (.cells #[.int .i64 gr, .int .i64 gb, .int .i64 gt, .int .i64 gs, .int .i64 go] 23)).cell? ⟨w.heap.size, 3, none⟩ = some (.int .i64 gs) := by simp
    have q4 : (w.alloc (.cells #[.int .i64 gr, .int .i64 gb, .int .i64 gt, .int .i64 gs, .int .i64 go] 23)).cell? ⟨w.heap.size, 4, none⟩ = some (.int .i64 go) := by simp
    have hw1 : IntKind.i64.wrap (gb * sz) = gb * sz := IntWalk.i64_in _ (by omega)
    have hw2 : IntKind.i64.wrap (gr + gb * sz) = q := by rw [hq2]; exact IntWalk.i64_in _ (by omega)
    have hwq : IntKind.i64.wrap q = q := IntWalk.i64_in _ (by omega)
    clear hbd hq hg
    go_enter Try.func20, Try.ntmps20
    go_wp2_with fail
    refine (HV.out _).mono ?_
    rintro e w2 ⟨rfl, hb⟩
    replace q0 := hb.keep q0
    replace q1 := hb.keep q1
    replace q2 := hb.keep q2
    replace q3 := hb.keep q3
    replace q4 := hb.keep q4
    have HB2 := Lib.hid ((HKA.out _).on hb)
    clear hb
    go_wp2_with fail
    refine wp_region_next (by kernel_rfl) (by kernel_rfl) ?_
    repeat (go_big_quiet_step ((go_at_call 14; exact Calls.next_of (HZ.out _))))
    refine wpQuiet_nil ?_
    intro _ hw'
    obtain ⟨nq, hw''⟩ := hw'
    subst hw''
    go_wp2_with fail
    go_ret
    exact ⟨by first | rfl | (rw [hq2]; done) | (rw [hq2]; exact congrArg (fun x => Ending.returned (Value.int .i64 x)) hwq) | (simp only [hq2]; exact congrArg (fun x => Ending.returned (Value.int .i64 x)) hwq), HB2.out.onNext _⟩
end Go.Proofs.Ytbiecglooagmmaa
