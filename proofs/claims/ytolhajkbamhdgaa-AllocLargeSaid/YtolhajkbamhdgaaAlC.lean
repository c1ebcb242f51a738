/-
  package alloc: without.
  Conditions: as each theorem says.
-/
import Derived.Test.YtolhajkbamhdgaaAlB
namespace Go.Proofs.Ytolhajkbamhdgaa
set_option linter.unusedSimpArgs false
set_option linter.unusedVariables false
open Go.RowKit

/-- A slice that reads as a list. -/
def ReadsE (w : World) (v : Value) (l : List E) : Prop := ∃ a c, v = .slice a l.length c ∧ Rd w a l
/-- An address that is the first one, or lies in a later block. -/
def FreshA (B : Nat) (a0 a : Option Addr) : Prop := a = a0 ∨ ∀ b o, a = some ⟨b, o, none⟩ → B ≤ b
theorem FreshA.own {w : World} {B B' n c : Nat} {a0 a : Option Addr} {l : List E} (h : OwnE w B (.slice a n c) l) (hb : B' ≤ B) : FreshA B' a0 a := by
  refine .inr fun b o e => ?_
  subst e
  exact Nat.le_trans hb (h.lt b rfl).1
theorem Rd.lt {w : World} {a : Option Addr} {l : List E} (h : Rd w a l) : l = [] ∨ ∀ b o, a = some ⟨b, o, none⟩ → b < w.heap.size := by
  cases l with
  | nil => exact .inl rfl
  | cons x r =>
    obtain ⟨b, o, e, hat⟩ := h.at (by simp)
    refine .inr fun b' o' e' => ?_
    have hc := World.block_lt_of_cell? w _ (hat 0 x rfl).a
    rw [e] at e'
    injection e' with e'
    injection e' with e1
    rw [← e1]
    exact hc
theorem Rd.cell_ne {w : World} {a : Option Addr} {l : List E} (h : Rd w a l) (g o : Nat) (v : Value) (hb : l = [] ∨ ∀ b o', a = some ⟨b, o', none⟩ → b ≠ g) : Rd (w.setCell ⟨g, o, none⟩ v) a l := by
  rcases hb with hb | hb
  · exact ⟨h.1, .inl hb⟩
  refine ⟨h.1, h.2.imp id fun ⟨b, o', ha, hat⟩ => ⟨b, o', ha, fun k x hk => ?_⟩⟩
  have hne := hb b o' ha
  obtain ⟨h1, h2, h3⟩ := hat k x hk
  exact ⟨by rw [World.cell?_setCell_far _ _ _ _ (Ne.symm hne)]; exact h1, by rw [World.cell?_setCell_far _ _ _ _ (Ne.symm hne)]; exact h2, by rw [World.cell?_setCell_far _ _ _ _ (Ne.symm hne)]; exact h3⟩
theorem withoutL_nil (less : List E) : withoutL [] less = [] := by
  induction less with
  | nil => rfl
  | cons x r ih => exact ih
theorem OwnE.reads {w : World} {B : Nat} {v : Value} {l : List E} (h : OwnE w B v l) (hl : l.length ≤ 46912496118443) : ReadsE w v l := h.rd hl
set_option maxRecDepth 100000 in
set_option maxHeartbeats 4000000 in
theorem without_any (l less : List E) (a al : Option Addr) (c cl : Nat) (w : World) (hr : Rd w a l) (hrl : Rd w al less) (hc : Canon l) (hok : ∀ x ∈ less, okB x = true) (hl : less.length ≤ 1000000) :
    Calls Try.prog 93 #[.slice a l.length c, .slice al less.length cl] w fun e w' => ∃ a1 c1, e = .returned (.slice a1 (withoutL l less).length c1) ∧ Rd w' a1 (withoutL l less) ∧ FreshA w.heap.size a a1 ∧ Below w.heap.size w w' := by
  have HO := Lib.hid hok
  have HCA : Hid (∀ k, Canon (withoutL l (less.take k))) := Lib.hid fun k => (without_facts (less.take k) (fun x hx => hok x (List.mem_of_mem_take hx)) l hc).1
  obtain ⟨i0, hi, hz0, hz1, hz2⟩ := info_parts infoE
  clear hok
  go_enter Try.func93, Try.ntmps93
  go_wp2_with fail
  go_loopw [0, 13] (fun v i wr => ∃ k : Nat, k ≤ less.length ∧ i = .int .i64 k ∧ (∃ a1 c1, v = .slice a1 (withoutL l (less.take k)).length c1 ∧ Rd wr a1 (withoutL l (less.take k)) ∧ FreshA w.heap.size a a1) ∧ Below w.heap.size w wr) (fun _ i _ => less.length - (intOf i).toNat)
  case atStart => exact ⟨0, Nat.zero_le _, rfl, ⟨a, c, rfl, hr, .inl rfl⟩, Below.refl _ _⟩
  case round =>
    obtain ⟨k, hk, rfl, ⟨a1, c1, rfl, hr1, hfr1⟩, hB⟩ := hrel
    by_cases hlt : k < less.length
    · obtain ⟨b, o, rfl, hat⟩ := (hrl.keep hB).at (by omega)
      obtain ⟨h1, h2, h3⟩ := hat k _ (List.getElem?_eq_getElem hlt)
      have hxo := HO.out _ (List.getElem_mem hlt)
      obtain ⟨d1, d2, d3, d4, d5⟩ := (okB_iff _).1 hxo
      have HT := Lib.hid (withoutL_take l less k hlt)
      have HC1 := Lib.hid (HCA.out k)
      have HC2 := Lib.hid (HCA.out (k + 1))
      generalize less[k] = x at *
      generalize withoutL l (less.take k) = L at *
      have hLs := canon_short HC1.out
      have HOK : Hid (∀ y ∈ L, okB y = true) := Lib.hid fun y hy => (HC1.out.1 y hy).2
      have HOK2 : Hid (∀ y ∈ fromL L x.s, okB y = true) := Lib.hid fun y hy => ((fromL_canon L x.s HC1.out).1 y hy).2
      have lB := beforeL_length L x.s
      have lF := fromL_length L x.s
      have lG := fromL_length (fromL L x.s) (x.s + x.n)
      clear hat hrl hr
      go_wp2_with fail
      refine (clip_any L x.s a1 c1 _ (hr1.keep ((Below.refl _ _).onAlloc _)) HOK.out (by omega) (by omega)).mono ?_
      rintro e w3 ⟨v3, m3, rfl, ho3, hm3, hsep, hb3⟩
      have hx0 := hb3.keep (a := ⟨wr.heap.size, 0, none⟩) (v := .int .i64 x.a) (by simp)
      have hx1 := hb3.keep (a := ⟨wr.heap.size, 1, none⟩) (v := .int .i64 x.n) (by simp)
      have hx2 := hb3.keep (a := ⟨wr.heap.size, 2, none⟩) (v := .int .i64 x.s) (by simp)
      have hB3 : Below w.heap.size w w3 := (hB.onAlloc _).on hb3
      obtain ⟨a3, c3, rfl, hr3⟩ := ho3.rd (by omega)
      have HM := Lib.hid hm3
      have HSZ : Hid (w.heap.size ≤ (wr.alloc (.cells #[.int .i64 x.a, .int .i64 x.n, .int .i64 x.s] 41)).heap.size) := Lib.hid (by have h5 := hB.size; simp only [World.size_alloc]; omega)
      have hrow : ∀ j, m3.ownBlock = some j → w.heap.size ≤ j := fun j hj => by have h4 := (hm3.lt j hj).1; have h5 := hB.size; simp only [World.size_alloc] at h4; omega
      have HROW := Lib.hid hrow
      clear ho3 hm3 hsep hb3 hrow hr1 h1 h2 h3
      go_wp2_with fail
      refine (aend_any _ _ _ _ (by omega) (by omega)).mono ?_
      rintro e w4 ⟨rfl, hb4⟩
      have HM := Lib.hid (HM.out.keep hb4)
      have hr4 := hr3.keep hb4
      have hB4 := hB3.on hb4
      clear hb4 hr3 hx0 hx1 hx2
      go_wp2_with fail
      refine (clip_any (fromL L x.s) (x.s + x.n) a3 c3 _ hr4 HOK2.out (by omega) (by omega)).mono ?_
      rintro e w5 ⟨v5, m5, rfl, ho5, hm5, hsep, hb5⟩
      have HM := Lib.hid (HM.out.keep hb5)
      have hB5 := hB4.on hb5
      have HSZ5 := Lib.hid hB5.size
      obtain ⟨a5, c5, rfl, hr5⟩ := ho5.rd (by omega)
      have HS := Lib.hid hr5.source
      clear hb5 ho5 hm5 hsep hr5 hr4
      go_wp2_with (at_builtin; refine wpList_append_xs _ rfl _ _ 32 rfl w.heap.size 41 i0 (.agg #[.int .i64 0, .int .i64 0, .int .i64 0]) 3 24 Try.underlying32 hi hz0 hz1 hz2 rfl (by decide) m3 _ _ rfl (HM.out.mono HSZ.out) _ _ _ _ rfl HS.out (by omega) (by simp only [maxLen]; omega) HSZ5.out ?_; intro v1 w6 hown1 hgrow1 hwhere1)
      have HO6 := Lib.hid (OwnE.append hown1 rfl)
      have HB6 := Lib.hid (hB5.onGrow hgrow1 HROW.out)
      have HLEN : Hid ((lessX L x).length ≤ 46912496118443) := Lib.hid (by unfold lessX; rw [List.length_append]; omega)
      clear hown1 hgrow1 hwhere1
      go_roundw
      case rel => exact ⟨k + 1, by omega, by go_num, (by rw [HT.out]; obtain ⟨a6, c6, rfl, hr6⟩ := HO6.out.rd HLEN.out; exact ⟨a6, c6, rfl, hr6, FreshA.own HO6.out (Nat.le_refl _)⟩), HB6.out⟩
      case measure => simp [intOf]; omega
    · rw [List.take_of_length_le (by omega)] at hr1 ⊢
      go_wp2
      go_ret
      exact ⟨a1, c1, rfl, hr1, hfr1, hB⟩
end Go.Proofs.Ytolhajkbamhdgaa
