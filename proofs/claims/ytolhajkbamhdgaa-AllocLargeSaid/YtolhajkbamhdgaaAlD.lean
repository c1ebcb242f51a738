/-
  package alloc: permitted.
  Conditions: as each theorem says.
-/
import Derived.Test.YtolhajkbamhdgaaAlC
import Derived.Test.YtolhajkbamhdgaaRuM
import Derived.Test.YtolhajkbamhdgaaRcB
namespace Go.Proofs.Ytolhajkbamhdgaa
set_option linter.unusedSimpArgs false
set_option linter.unusedVariables false
open Go.RowKit

/-- The first k extents flattened. -/
def flatTo (l : List E) (k : Nat) : List E := flatL (l.take k) ++ l.drop k
theorem flatTo_zero (l : List E) : flatTo l 0 = l := by simp [flatTo, flatL]
theorem flatTo_all (l : List E) : flatTo l l.length = flatL l := by simp [flatTo]
theorem flatTo_length (l : List E) (k : Nat) : (flatTo l k).length = l.length := by simp [flatTo, flatL]; omega
theorem flatTo_get (l : List E) (k : Nat) (h : k < l.length) : (flatTo l k)[k]? = some l[k] := by
  unfold flatTo flatL
  rw [List.getElem?_append_right (by simp; omega)]
  simp
  rw [show k - min k l.length = 0 by omega]
  simp
theorem flatTo_set (l : List E) (k : Nat) (h : k < l.length) : (flatTo l k).set k l[k].flat = flatTo l (k + 1) := by
  unfold flatTo flatL
  rw [List.set_append_right _ _ (by simp; omega)]
  rw [List.take_succ_eq_append_getElem h, List.map_append, List.append_assoc]
  congr 1
  rw [show k - (List.map E.flat (l.take k)).length = 0 by simp; omega, List.drop_eq_getElem_cons h]
  rfl
theorem cells_seta (M : List E) (k : Nat) (x : E) (h : M[k]? = some x) : (cellsL M).set (k * 3) (.int .i64 0) = cellsL (M.set k x.flat) := by
  have hk : k < M.length := (List.getElem?_eq_some_iff.1 h).1
  have hx : M[k] = x := (List.getElem?_eq_some_iff.1 h).2
  have hl : (cellsL (M.take k)).length = k * 3 := by rw [cellsL_length, List.length_take, Nat.min_eq_left (by omega)]
  have e1 : M = M.take k ++ (x :: M.drop (k + 1)) := by
    rw [← hx, ← List.drop_eq_getElem_cons hk, List.take_append_drop]
  have e2 : M.set k x.flat = M.take k ++ (x.flat :: M.drop (k + 1)) := set_split M k hk _
  rw [e2]
  conv => lhs; rw [e1]
  rw [cellsL_append, cellsL_append, List.set_append_right _ _ (by rw [hl]; omega), hl, Nat.sub_self]
  rfl
theorem OwnE.seta {w : World} {B g c n : Nat} {M : List E} (hn : n = M.length) (h : OwnE w B (.slice (some ⟨g, 0, none⟩) n c) M) (k : Nat) (x : E) (hx : M[k]? = some x) :
    OwnE (w.setCell ⟨g, k * 3, none⟩ (.int .i64 0)) B (.slice (some ⟨g, 0, none⟩) n c) (M.set k x.flat) ∧ w.grownBy (w.setCell ⟨g, k * 3, none⟩ (.int .i64 0)) (some g) := by
  subst hn
  obtain ⟨s1, g1⟩ := World.ownsRow.stored h (k * 3) (.int .i64 0)
  rw [cells_seta M k x hx] at s1
  refine ⟨?_, g1⟩
  unfold OwnE
  rw [List.length_set]
  exact s1
set_option maxRecDepth 100000 in
set_option maxHeartbeats 4000000 in
theorem aperm_no (N : Nat) (l : List E) (a al : Option Addr) (n c cl : Nat) (w : World) (hN : N ≤ 65536) (hr : Rd w al l) (hw : wfL l) (hp : permB N l = false) :
    Calls Try.prog 80 #[.agg #[.int .i64 N, .slice a n c], .slice al l.length cl] w fun e w' => e = .returned (.tuple #[.slice none 0 0, .bool false]) ∧ Below w.heap.size w w' := by
  have hlen := hr.1
  have HP := Lib.hid hp
  clear hp
  go_enter Try.func80, Try.ntmps80
  go_wp2_with fail
  go_loopw [13] (fun i wr => ∃ k : Nat, k ≤ l.length ∧ i = .int .i64 k ∧ permB N (l.take k) = true ∧ wr.cell? ⟨w.heap.size, 0, none⟩ = some (.int .i64 N) ∧ Below w.heap.size w wr) (fun i _ => l.length - (intOf i).toNat)
  case atStart => exact ⟨0, Nat.zero_le _, rfl, rfl, by simp, (Below.refl _ _).onAlloc _⟩
  case round =>
    obtain ⟨k, hk, rfl, hp, hcN, hB⟩ := hrel
    by_cases hlt : k < l.length
    · obtain ⟨b, o, rfl, hat⟩ := (hr.keep hB).at (by omega)
      obtain ⟨h1, h2, h3⟩ := hat k _ (List.getElem?_eq_getElem hlt)
      have HX := Lib.hid (hw _ (List.getElem_mem hlt))
      have HV := Lib.hid (permB_next N l k hlt)
      have HPk := Lib.hid hp
      generalize l[k] = x at *
      clear hat hr hp
      obtain ⟨_, ⟨b3, b4⟩, ⟨b5, b6⟩⟩ := HX.out
      by_cases hx : permX N x = true
      · have HF := Lib.hid hx
        have hx' : 1 ≤ x.n ∧ 0 ≤ x.s ∧ x.s + x.n ≤ N := of_decide_eq_true hx
        obtain ⟨e1, e2, e3⟩ := hx'
        clear hx
        have hcN2 : (wr.alloc (.cells #[.int .i64 x.a, .int .i64 x.n, .int .i64 x.s] 41)).cell? ⟨w.heap.size, 0, none⟩ = some (.int .i64 N) := ((Below.refl wr.heap.size wr).onAlloc _).keep hcN
        go_wp2_with fail
        go_roundw
        case rel => exact ⟨k + 1, by omega, by go_num, by rw [HV.out, HPk.out, HF.out]; rfl, hcN2, hB.onAlloc _⟩
        case measure => simp [intOf]; omega
      · have hx' : ¬ (1 ≤ x.n ∧ 0 ≤ x.s ∧ x.s + x.n ≤ N) := fun h => hx (decide_eq_true h)
        clear hx
        by_cases d1 : x.n < 1
        · go_wp2_with fail
          go_ret2
          exact ⟨rfl, hB.onAlloc _⟩
        · by_cases d2 : x.s < 0
          · go_wp2_with fail
            go_ret2
            exact ⟨rfl, hB.onAlloc _⟩
          · by_cases d3 : (N : Int) < x.s
            · go_wp2_with fail
              go_ret2
              exact ⟨rfl, hB.onAlloc _⟩
            · have d4 : (N : Int) - x.s < x.n := by omega
              go_wp2_with fail
              go_ret2
              exact ⟨rfl, hB.onAlloc _⟩
    · rw [List.take_of_length_le (by omega)] at hp
      exact absurd hp (by rw [HP.out]; simp)
set_option maxRecDepth 100000 in
set_option maxHeartbeats 4000000 in
theorem aperm_yes (N : Nat) (l : List E) (a al : Option Addr) (n c cl : Nat) (w : World) (hN : N ≤ 65536) (hr : Rd w al l) (hw : wfL l) (hp : permB N l = true) (hl : l.length ≤ 1000000) :
    Calls Try.prog 80 #[.agg #[.int .i64 N, .slice a n c], .slice al l.length cl] w fun e w' => ∃ v, e = .returned (.tuple #[v, .bool (onceB l)]) ∧ OwnE w' w.heap.size v (runsL (flatL l)) ∧ Below w.heap.size w w' := by
  have hlen := hr.1
  have HPX := Lib.hid ((permB_iff _ _).1 hp)
  have HFW := Lib.hid (flat_wf hN hp)
  have HM : Hid (∀ x ∈ l, 0 ≤ x.n ∧ x.n ≤ 65536) := Lib.hid fun x hx => by have := HPX.out x hx; omega
  have HRM : Hid (∀ x ∈ runsL (flatL l), 0 ≤ x.n ∧ x.n ≤ 65536) := Lib.hid fun x hx => by
    have := (okB_iff x).1 ((runs_facts (flatL l)).1.1 x hx).2
    omega
  have hrs := canon_short (runs_facts (flatL l)).1
  clear hp hw
  go_enter Try.func80, Try.ntmps80
  go_wp2_with fail
  go_loopw [13] (fun i wr => ∃ k : Nat, k ≤ l.length ∧ i = .int .i64 k ∧ wr.cell? ⟨w.heap.size, 0, none⟩ = some (.int .i64 N) ∧ Below w.heap.size w wr) (fun i _ => l.length - (intOf i).toNat)
  case atStart => exact ⟨0, Nat.zero_le _, rfl, by simp, (Below.refl _ _).onAlloc _⟩
  case round =>
    obtain ⟨k, hk, rfl, hcN, hB⟩ := hrel
    by_cases hlt : k < l.length
    · obtain ⟨b, o, rfl, hat⟩ := (hr.keep hB).at (by omega)
      obtain ⟨h1, h2, h3⟩ := hat k _ (List.getElem?_eq_getElem hlt)
      obtain ⟨e1, e2, e3⟩ := HPX.out _ (List.getElem_mem hlt)
      generalize l[k] = x at *
      clear hat hr
      have hcN2 : (wr.alloc (.cells #[.int .i64 x.a, .int .i64 x.n, .int .i64 x.s] 41)).cell? ⟨w.heap.size, 0, none⟩ = some (.int .i64 N) := ((Below.refl wr.heap.size wr).onAlloc _).keep hcN
      go_wp2_with fail
      go_roundw
      case rel => exact ⟨k + 1, by omega, by go_num, hcN2, hB.onAlloc _⟩
      case measure => simp [intOf]; omega
    · have hr1 := hr.keep hB
      go_wp2_with fail
      refine (clone_any l _ _ _ hr1 (by omega)).mono ?_
      rintro e w2 ⟨v2, rfl, ho2, hb2⟩
      have hB2 := hB.on hb2
      have HO2 := Lib.hid (ho2.mono hB.size)
      have hgw := hb2.size
      clear hr1
      obtain ⟨a2, c2, rfl, _⟩ := ho2.rd (by omega)
      clear ho2 hb2
      go_wp2_with fail
      go_loopw [47] (fun i wq => ∃ k : Nat, k ≤ l.length ∧ i = .int .i64 k ∧ OwnE wq w.heap.size (.slice a2 l.length c2) (flatTo l k) ∧ w2.grownBy wq (Value.slice a2 l.length c2).ownBlock) (fun i _ => l.length - (intOf i).toNat)
      case atStart => exact ⟨0, Nat.zero_le _, rfl, by rw [flatTo_zero]; exact HO2.out, World.grownBy.refl _ _⟩
      case round =>
        obtain ⟨k, hk, rfl, ho, hg⟩ := hrel
        have hfl := flatTo_length l k
        have hrow : ∀ j, (Value.slice a2 l.length c2).ownBlock = some j → w.heap.size ≤ j := fun j hj => (ho.lt j hj).1
        have hBq := hB2.onGrow hg hrow
        by_cases hlt : k < l.length
        · rcases ho.form with ⟨h0, h1⟩ | ⟨g, cc, h0, hg1, hg2, hc1, hc2, hat, hfz⟩
          · rw [h1] at hfl
            simp at hfl
            omega
          · injection h0 with h0 h00 h000
            subst h0
            subst h000
            have hgt := flatTo_get l k hlt
            obtain ⟨y1, y2, y3⟩ := hat k _ hgt
            have hf0 := hfz (k * 3)
            obtain ⟨HO3, hg3⟩ := OwnE.seta hfl.symm ho k _ hgt
            rw [flatTo_set l k hlt] at HO3
            have HO4 := Lib.hid HO3
            have HG4 := Lib.hid (World.grownBy.next hg hg3)
            simp only [Nat.zero_add] at y1
            generalize l[k] = x at *
            clear HO3 hg3 hat hfz hgt h00 ho hg hfl y2 y3
            go_wp2_with fail
            go_roundw
            case rel => exact ⟨k + 1, by omega, by go_num, HO4.out, HG4.out⟩
            case measure => simp [intOf]; omega
        · obtain rfl : k = l.length := by omega
          rw [flatTo_all] at ho
          have hFL : (flatL l).length = l.length := by simp [flatL]
          have hrF : Rd _ a2 (flatL l) := ho.rd' (by omega)
          have hru := runs_any (flatL l) a2 c2 _ hrF HFW.out (by omega)
          rw [hFL] at hru
          have HRU := Lib.hid hru
          have HRQ := Lib.hid (hr.keep hBq)
          have hszq := hBq.size
          clear ho hg hru hr
          go_wp2_with fail
          refine HRU.out.mono ?_
          rintro e w4 ⟨v4, rfl, ho4, hb4⟩
          have HO5 := Lib.hid (ho4.mono hszq)
          obtain ⟨a4, c4, rfl, hr4⟩ := ho4.rd (by omega)
          have hB4 := hBq.on hb4
          have hr4' := Lib.hid hr4
          have HRQ := Lib.hid (HRQ.out.keep hb4)
          clear ho4 hb4 hr4 HRU
          go_wp2_with fail
          refine (asize_any _ a4 c4 _ hr4'.out HRM.out (by omega)).mono ?_
          rintro e w5 ⟨rfl, hb5⟩
          have HO5 := Lib.hid (HO5.out.keep hb5)
          have HRQ := Lib.hid (HRQ.out.keep hb5)
          have hB5 := hB4.on hb5
          clear hb5 hr4'
          go_wp2_with fail
          refine (asize_any l al cl _ HRQ.out HM.out (by omega)).mono ?_
          rintro e w6 ⟨rfl, hb6⟩
          have HO6 := Lib.hid (HO5.out.keep hb6)
          have hB6 := hB5.on hb6
          clear hb6
          go_wp2_with fail
          go_ret2
          exact ⟨_, rfl, HO6.out, hB6⟩
end Go.Proofs.Ytolhajkbamhdgaa
