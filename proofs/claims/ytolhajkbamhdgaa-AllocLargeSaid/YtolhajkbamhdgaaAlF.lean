/-
  package alloc: Mark.
  Conditions: as each theorem says.
-/
import Derived.Test.YtolhajkbamhdgaaAlE
import Derived.Test.YtolhajkbamhdgaaAlD
namespace Go.Proofs.Ytolhajkbamhdgaa
set_option linter.unusedSimpArgs false
set_option linter.unusedVariables false
open Go.RowKit

/-- The result's block is still empty, and the receiver's box is there. -/
structure MarkS (w0 w : World) (N : Int) (a : Option Addr) (n c : Nat) : Prop where
  b0 : w.cell? ⟨w0.heap.size, 0, none⟩ = some (.int .i64 N)
  b1 : w.cell? ⟨w0.heap.size, 1, none⟩ = some (.slice a n c)
  r0 : w.cell? ⟨w0.heap.size + 1, 0, none⟩ = some (.int .i64 0)
  r1 : w.cell? ⟨w0.heap.size + 1, 1, none⟩ = some (.slice none 0 0)
  f0 : w.frozen? ⟨w0.heap.size + 1, 0, none⟩ = false
  f1 : w.frozen? ⟨w0.heap.size + 1, 1, none⟩ = false
  B : Below w0.heap.size w0 w
theorem MarkS.later {w0 w w' : World} {N : Int} {a : Option Addr} {n c : Nat} (h : MarkS w0 w N a n c) (hb : Below w.heap.size w w') : MarkS w0 w' N a n c :=
  ⟨hb.keep h.b0, hb.keep h.b1, hb.keep h.r0, hb.keep h.r1, hb.keepF h.r0 h.f0, hb.keepF h.r1 h.f1, h.B.on hb⟩
theorem MarkS.start (w : World) (N : Int) (a : Option Addr) (n c : Nat) (t : TypeId) : MarkS w ((w.alloc (.cells #[.int .i64 N, .slice a n c] t)).alloc (.cells #[.int .i64 0, .slice none 0 0] t)) N a n c :=
  ⟨by simp, by simp, by simp, by simp, by simp, by simp, ((Below.refl _ _).onAlloc _).onAlloc _⟩
set_option maxRecDepth 100000 in
set_option maxHeartbeats 2000000 in
theorem mark_range (N : Nat) (R l : List E) (a al : Option Addr) (c cl : Nat) (w : World) (hN : N ≤ 65536) (hr : Rd w al l) (hw : wfL l) (hl : l.length ≤ 1000000) (hp : (permB N l && onceB l) = false) :
    Calls Try.prog 66 #[.agg #[.int .i64 N, .slice a R.length c], .slice al l.length cl] w fun e w' => e = .returned (.tuple #[.agg #[.int .i64 0, .slice none 0 0], .int .i64 2]) ∧ Below w.heap.size w w' := by
  have HS0 := Lib.hid (MarkS.start w N a R.length c 58)
  have HR0 := Lib.hid (hr.keep (((Below.refl w.heap.size w).onAlloc (.cells #[.int .i64 N, .slice a R.length c] 58)).onAlloc (.cells #[.int .i64 0, .slice none 0 0] 58)))
  cases h : permB N l
  · have HP := Lib.hid h
    clear hp h hr
    go_enter Try.func66, Try.ntmps66
    go_wp2_with fail
    refine (aperm_no N l a al _ c cl _ hN HR0.out hw HP.out).mono ?_
    rintro e w1 ⟨rfl, hb1⟩
    have HS := Lib.hid (HS0.out.later hb1)
    clear hb1 HS0
    have r0 := HS.out.r0
    have r1 := HS.out.r1
    have f0 := HS.out.f0
    have f1 := HS.out.f1
    have b0 := HS.out.b0
    have b1 := HS.out.b1
    go_wp2_with fail
    refine bodyPost_ret (v := .tuple #[.agg #[.int .i64 0, .slice none 0 0], .int .i64 2]) ?_ rfl ⟨rfl, ?_⟩
    · simp [results, Try.results66, go_sem, r0, r1, f0, f1]
    · exact (HS.out.B.setCell (by simp) _).setCell (by simp) _
  · rw [h] at hp
    have HP := Lib.hid h
    have HO : Hid (onceB l = false) := Lib.hid (by simpa using hp)
    clear hp h hr
    go_enter Try.func66, Try.ntmps66
    go_wp2_with fail
    refine (aperm_yes N l a al _ c cl _ hN HR0.out hw HP.out hl).mono ?_
    rintro e w1 ⟨v1, rfl, _, hb1⟩
    rw [HO.out]
    have HS := Lib.hid (HS0.out.later hb1)
    clear hb1 HS0
    have r0 := HS.out.r0
    have r1 := HS.out.r1
    have f0 := HS.out.f0
    have f1 := HS.out.f1
    have b0 := HS.out.b0
    have b1 := HS.out.b1
    go_wp2_with fail
    refine bodyPost_ret (v := .tuple #[.agg #[.int .i64 0, .slice none 0 0], .int .i64 2]) ?_ rfl ⟨rfl, ?_⟩
    · simp [results, Try.results66, go_sem, r0, r1, f0, f1]
    · exact (HS.out.B.setCell (by simp) _).setCell (by simp) _

theorem asize_is (l : List E) (z : Int) (a : Option Addr) (c : Nat) (w : World) (hz : lenL l = z) (hr : Rd w a l) (hn : ∀ x ∈ l, 0 ≤ x.n ∧ x.n ≤ 65536) (hl : l.length ≤ 1000000000) :
    Calls Try.prog 70 #[.slice a l.length c] w fun e w' => e = .returned (.int .i64 z) ∧ Below w.heap.size w w' := by
  subst hz
  exact asize_any l a c w hr hn hl
/-- An address away from a block. -/
def Away (p : Prop) (a : Option Addr) (g : Nat) : Prop := p ∨ ∀ b o, a = some ⟨b, o, none⟩ → b ≠ g
/-- An address that is the first one, or lies in a new block. -/
def Fresh (p0 p : Prop) (B : Nat) (a0 a : Option Addr) : Prop := p ∨ (a = a0 ∧ ¬p0) ∨ ∀ b o, a = some ⟨b, o, none⟩ → B ≤ b
theorem Fresh.away {p0 p : Prop} {B g : Nat} {a0 a : Option Addr} (h : Fresh p0 p B a0 a) (h0 : Away p0 a0 g) (hg : g < B) : Away p a g := by
  rcases h with h | ⟨rfl, h⟩ | h
  · exact .inl h
  · exact .inr (h0.resolve_left h)
  · exact .inr fun b o e => by have := h b o e; omega
theorem Fresh.mono {p0 p : Prop} {B B' : Nat} {a0 a : Option Addr} (h : Fresh p0 p B a0 a) (hb : B' ≤ B) : Fresh p0 p B' a0 a := by
  rcases h with h | h | h
  · exact .inl h
  · exact .inr (.inl h)
  · exact .inr (.inr fun b o e => Nat.le_trans hb (h b o e))
theorem Fresh.self (p : Prop) (B : Nat) (a : Option Addr) : Fresh p p B a a := by
  by_cases h : p
  · exact .inl h
  · exact .inr (.inl ⟨rfl, h⟩)
theorem Fresh.trans {p0 p1 p2 : Prop} {B : Nat} {a0 a1 a2 : Option Addr} (h : Fresh p0 p1 B a0 a1) (h' : Fresh p1 p2 B a1 a2) : Fresh p0 p2 B a0 a2 := by
  rcases h' with h' | ⟨rfl, h'⟩ | h'
  · exact .inl h'
  · rcases h with h | h | h
    · exact absurd h h'
    · exact .inr (.inl h)
    · exact .inr (.inr h)
  · exact .inr (.inr h')
/-- The new runs. -/
def NewRuns (w w' : World) (a : Option Addr) (l0 l : List E) (v : Value) : Prop := ∃ a' c', v = .slice a' l.length c' ∧ Rd w' a' l ∧ Fresh (l0 = []) (l = []) w.heap.size a a'
/-- What Mark returns for permitted slots. -/
def MarkPost (N : Nat) (R L : List E) (a : Option Addr) (w : World) (e : Ending) (w' : World) : Prop :=
  Below w.heap.size w w' ∧ ((lenL (withoutL R L) + lenL L = lenL R ∧ ∃ v, e = .returned (.tuple #[.agg #[.int .i64 N, v], .int .i64 0]) ∧ NewRuns w w' a R (withoutL R L) v) ∨
    (lenL (withoutL R L) + lenL L ≠ lenL R ∧ e = .returned (.tuple #[.agg #[.int .i64 0, .slice none 0 0], .int .i64 8])))
set_option maxRecDepth 100000 in
set_option maxHeartbeats 2000000 in
theorem mark_any (N : Nat) (R l : List E) (a al : Option Addr) (c cl : Nat) (w : World) (hN : N ≤ 65536) (hrR : Rd w a R) (hc : Canon R) (hr : Rd w al l) (hw : wfL l) (hl : l.length ≤ 1000000) (hp : permB N l = true) (ho : onceB l = true) :
    Calls Try.prog 66 #[.agg #[.int .i64 N, .slice a R.length c], .slice al l.length cl] w (MarkPost N R (runsL (flatL l)) a w) := by
  have HS0 := Lib.hid (MarkS.start w N a R.length c 58)
  have hk := ((Below.refl w.heap.size w).onAlloc (.cells #[.int .i64 N, .slice a R.length c] 58)).onAlloc (.cells #[.int .i64 0, .slice none 0 0] 58)
  have HR0 := Lib.hid (hr.keep hk)
  have HRR := Lib.hid (hrR.keep hk)
  have HNA := Lib.hid hrR.lt
  have HP := Lib.hid hp
  have HO := Lib.hid ho
  have hLc := (runs_facts (flatL l)).1
  have hLs := canon_short hLc
  have HLok : Hid (∀ x ∈ runsL (flatL l), okB x = true) := Lib.hid fun x hx => (hLc.1 x hx).2
  have hWc := (without_facts (runsL (flatL l)) HLok.out R hc).1
  have hWs := canon_short hWc
  have hRs := canon_short hc
  have HM : ∀ L : List E, Canon L → ∀ x ∈ L, 0 ≤ x.n ∧ x.n ≤ 65536 := fun L hL x hx => by
    have := (okB_iff x).1 (hL.1 x hx).2
    omega
  have HM1 := Lib.hid (HM _ hLc)
  have HM2 := Lib.hid (HM _ hWc)
  have HM3 := Lib.hid (HM _ hc)
  obtain ⟨q1, q2⟩ := lenL_bd' _ 65536 HM1.out
  obtain ⟨q3, q4⟩ := lenL_bd' _ 65536 HM2.out
  obtain ⟨q5, q6⟩ := lenL_bd' _ 65536 HM3.out
  have HCC := Lib.hid hc
  clear hp ho hr hrR hk hLc hWc HM hc
  generalize hLL : runsL (flatL l) = L at *
  have HLL := Lib.hid hLL
  clear hLL
  go_enter Try.func66, Try.ntmps66
  go_wp2_with fail
  have hcon := aperm_yes N l a al R.length c cl _ hN HR0.out hw HP.out hl
  rw [HO.out, HLL.out] at hcon
  refine hcon.mono ?_
  rintro e w1 ⟨v1, rfl, ho1, hb1⟩
  obtain ⟨a1, c1, rfl, hr1⟩ := ho1.rd (by omega)
  have HS := Lib.hid (HS0.out.later hb1)
  have HRR1 := Lib.hid (HRR.out.keep hb1)
  have HR1 := Lib.hid hr1
  have HSZ := Lib.hid hb1.size
  clear hb1 HS0 HRR ho1 hr1 hcon HR0
  have b1 := HS.out.b1
  go_wp2_with fail
  refine (without_any R L a a1 c c1 _ HRR1.out HR1.out HCC.out HLok.out (by omega)).mono ?_
  rintro e w2 ⟨a2, c2, rfl, hr2, hfr2, hb2⟩
  have HS := Lib.hid (HS.out.later hb2)
  have HRR2 := Lib.hid (HRR1.out.keep hb2)
  have HR2 := Lib.hid (HR1.out.keep hb2)
  have HW2 := Lib.hid hr2
  have hsz1 : w.heap.size + 2 ≤ w1.heap.size := by have := HSZ.out; simpa using this
  have HNE : Hid (withoutL R L = [] ∨ ∀ b o, a2 = some ⟨b, o, none⟩ → b ≠ w.heap.size + 1) := Lib.hid (by
    rcases hfr2 with h0 | hfr2
    · rcases HNA.out with h1 | h1
      · rw [h1]
        exact .inl (withoutL_nil L)
      · refine .inr fun b o e => ?_
        rw [h0] at e
        have := h1 b o e
        omega
    · refine .inr fun b o e => ?_
      have := hfr2 b o e
      omega)
  have HFr : Hid (Fresh (R = []) (withoutL R L = []) w.heap.size a a2) := Lib.hid (by
    rcases hfr2 with h0 | h
    · by_cases hR : R = []
      · exact .inl (by rw [hR]; exact withoutL_nil L)
      · exact .inr (.inl ⟨h0, hR⟩)
    · exact .inr (.inr fun b o e => by have := h b o e; omega))
  clear hb2 hr2 HRR1 HR1 b1 hfr2 HNA
  generalize hWW : withoutL R L = W at *
  have HWW := Lib.hid hWW
  clear hWW
  have b1 := HS.out.b1
  have b0 := HS.out.b0
  generalize hl1 : lenL W = z1 at *
  generalize hl2 : lenL L = z2 at *
  generalize hl3 : lenL R = z3 at *
  have H1 := Lib.hid hl1
  have H2 := Lib.hid hl2
  have H3 := Lib.hid hl3
  have q7 : IntKind.i64.wrap (z1 + z2) = z1 + z2 := IntWalk.i64_in _ (by omega)
  clear hl1 hl2 hl3
  by_cases hz : z1 + z2 = z3
  · have d1 : ((z1 + z2) != z3) = false := by simp [hz]
    have d2 : ((z1 + z2) == z3) = true := by simp [hz]
    have HZ := Lib.hid hz
    clear hz
    go_wp2_with fail
    refine wp_region_next (by kernel_rfl) (by kernel_rfl) ?_
    repeat (go_big_quiet_step (first | (go_at_call_of 70 (Value.slice a2 W.length c2); exact Calls.next_of (asize_is W z1 a2 c2 _ H1.out (HW2.out.keep (World.below_next _ _)) HM2.out (by omega))) | (go_at_call_of 70 (Value.slice a1 L.length c1); exact Calls.next_of (asize_is L z2 a1 c1 _ H2.out (HR2.out.keep (World.below_next _ _)) HM1.out (by omega))) | (go_at_call_of 70 (Value.slice a R.length c); exact Calls.next_of (asize_is R z3 a c _ H3.out (HRR2.out.keep (World.below_next _ _)) HM3.out (by omega)))))
    refine wpQuiet_nil ?_
    intro _ hw'
    obtain ⟨nq, hw''⟩ := hw'
    subst hw''
    have HB := Lib.hid (HS.out.later (World.below_next w2 nq))
    have HW3 := Lib.hid (HW2.out.keep (World.below_next w2 nq))
    clear HS b0 b1
    generalize w2.next nq = w3 at *
    have HS := HB
    have r0 := HS.out.r0
    have r1 := HS.out.r1
    have f0 := HS.out.f0
    have f1 := HS.out.f1
    have b0 := HS.out.b0
    have b1 := HS.out.b1
    go_wp2_with fail
    refine bodyPost_ret (v := .tuple #[.agg #[.int .i64 N, .slice a2 W.length c2], .int .i64 0]) ?_ rfl ⟨?_, .inl ⟨by rw [HWW.out, H1.out, H2.out, H3.out]; exact HZ.out, _, rfl, a2, c2, by rw [HWW.out], ?_, by rw [HWW.out]; exact HFr.out⟩⟩
    · simp [results, Try.results66, go_sem, r0, r1, f0, f1]
    · exact (HS.out.B.setCell (by simp) _).setCell (by simp) _
    · rw [HWW.out]
      exact (HW3.out.cell_ne _ _ _ HNE.out).cell_ne _ _ _ HNE.out
  · have d1 : ((z1 + z2) != z3) = true := by simp [hz]
    have d2 : ((z1 + z2) == z3) = false := by simp [hz]
    have HZ := Lib.hid hz
    clear hz
    go_wp2_with fail
    refine wp_region_next (by kernel_rfl) (by kernel_rfl) ?_
    repeat (go_big_quiet_step (first | (go_at_call_of 70 (Value.slice a2 W.length c2); exact Calls.next_of (asize_is W z1 a2 c2 _ H1.out (HW2.out.keep (World.below_next _ _)) HM2.out (by omega))) | (go_at_call_of 70 (Value.slice a1 L.length c1); exact Calls.next_of (asize_is L z2 a1 c1 _ H2.out (HR2.out.keep (World.below_next _ _)) HM1.out (by omega))) | (go_at_call_of 70 (Value.slice a R.length c); exact Calls.next_of (asize_is R z3 a c _ H3.out (HRR2.out.keep (World.below_next _ _)) HM3.out (by omega)))))
    refine wpQuiet_nil ?_
    intro _ hw'
    obtain ⟨nq, hw''⟩ := hw'
    subst hw''
    have HB := Lib.hid (HS.out.later (World.below_next w2 nq))
    have HW3 := Lib.hid (HW2.out.keep (World.below_next w2 nq))
    clear HS b0 b1
    generalize w2.next nq = w3 at *
    have HS := HB
    have r0 := HS.out.r0
    have r1 := HS.out.r1
    have f0 := HS.out.f0
    have f1 := HS.out.f1
    have b0 := HS.out.b0
    have b1 := HS.out.b1
    go_wp2_with fail
    refine bodyPost_ret (v := .tuple #[.agg #[.int .i64 0, .slice none 0 0], .int .i64 8]) ?_ rfl ⟨?_, .inr ⟨by rw [HWW.out, H1.out, H2.out, H3.out]; exact HZ.out, rfl⟩⟩
    · simp [results, Try.results66, go_sem, r0, r1, f0, f1]
    · exact (HS.out.B.setCell (by simp) _).setCell (by simp) _

/-- What Mark and Give return on the map that reads as the marks M. -/
def AChg (M : List Bool) (l : List E) (u : Bool) (a : Option Addr) (w : World) (e : Ending) (w' : World) : Prop :=
  Below w.heap.size w w' ∧ ((rangeB M.length l = false ∧ e = .returned (.tuple #[.agg #[.int .i64 0, .slice none 0 0], .int .i64 2])) ∨
    (rangeB M.length l = true ∧ stN M l u ≠ 0 ∧ e = .returned (.tuple #[.agg #[.int .i64 0, .slice none 0 0], .int .i64 8])) ∨
    (rangeB M.length l = true ∧ stN M l u = 0 ∧ ∃ v, e = .returned (.tuple #[.agg #[.int .i64 M.length, v], .int .i64 0]) ∧ NewRuns w w' a (freeR M) (freeR (chgM M l u)) v))
theorem amark_any (M : List Bool) (l : List E) (a al : Option Addr) (c cl : Nat) (w : World) (hN : M.length ≤ 65536) (hrR : Rd w a (freeR M)) (hr : Rd w al l) (hw : wfL l) (hl : l.length ≤ 1000000) :
    Calls Try.prog 66 #[.agg #[.int .i64 M.length, .slice a (freeR M).length c], .slice al l.length cl] w (AChg M l true a w) := by
  cases hb : rangeB M.length l
  · exact (mark_range M.length (freeR M) l a al c cl w hN hr hw hl hb).mono fun e w' h => ⟨h.2, .inl ⟨hb, h.1⟩⟩
  · obtain ⟨hp, ho, _⟩ := range_parts hN hb
    refine (mark_any M.length (freeR M) l a al c cl w hN hrR (freeR_canon M) hr hw hl hp ho).mono fun e w' h => ?_
    obtain ⟨h1, ⟨h2, v, h3, h4⟩ | ⟨h2, h3⟩⟩ := h
    · exact ⟨h1, .inr (.inr ⟨hb, (mark_size hN hp).1 h2, v, h3, by rw [mark_is hN hp] at h4; exact h4⟩)⟩
    · exact ⟨h1, .inr (.inl ⟨hb, fun hc => h2 ((mark_size hN hp).2 hc), h3⟩)⟩
end Go.Proofs.Ytolhajkbamhdgaa
