/-
  package refcount: New, permitted, changed.
  Conditions: as each theorem says.
-/
import Derived.Test.YtolhajkbamhdgaaRcA
import Derived.Test.YtolhajkbamhdgaaRuD
import Derived.Deep.CutRange
namespace Go.Proofs.Ytolhajkbamhdgaa
set_option linter.unusedSimpArgs false
set_option linter.unusedVariables false
open Go.RowKit

set_option maxRecDepth 100000 in
set_option maxHeartbeats 1000000 in
theorem new_yes (n : Nat) (w : World) (hn : n ≤ 65536) :
    Calls Try.prog 29 #[.int .i64 n] w fun e w' => ∃ v, e = .returned (.tuple #[.agg #[v], .int .i64 0]) ∧ OwnI w' w.heap.size v (List.replicate n 0) ∧ Below w.heap.size w w' := by
  go_enter Try.func29, Try.ntmps29
  go_wp2_with ((at_make; refine wpList_make_I _ rfl _ _ 25 rfl Try.underlying25 _ _ n rfl rfl (by omega) w.heap.size (w.heap.size + 1) (by simp) (by omega) ?_; intro w1 ho1 hb1 hz1; have hc := hb1.keep (a := ⟨w.heap.size, 0, none⟩) (by simp; rfl); have hf := hb1.keepF (a := ⟨w.heap.size, 0, none⟩) (by simp; rfl) (b := false) (by simp)))
  refine bodyPost_ret (v := .tuple #[.agg #[.slice (some ⟨w.heap.size + 1, 0, none⟩) n n], .int .i64 0]) ?_ rfl ⟨_, rfl, ?_, ?_⟩
  · simp [results, Try.results29, go_sem, hc, hf]
  · have := ho1.away ⟨w.heap.size, 0, none⟩ (.slice (some ⟨w.heap.size + 1, 0, none⟩) n n) (by simp [Value.ownBlock])
    simpa using this
  · exact (((Below.refl _ _).onAlloc _).on hb1).setCell (by simp) _
set_option maxRecDepth 100000 in
set_option maxHeartbeats 1000000 in
theorem new_no (n : Int) (w : World) (h : n < 0 ∨ 65536 < n) :
    Calls Try.prog 29 #[.int .i64 n] w fun e w' => e = .returned (.tuple #[.agg #[.slice none 0 0], .int .i64 1]) ∧ Below w.heap.size w w' := by
  rcases h with h | h
  all_goals
    go_enter Try.func29, Try.ntmps29
    go_wp2
    refine bodyPost_ret (v := .tuple #[.agg #[.slice none 0 0], .int .i64 1]) ?_ rfl ⟨rfl, ?_⟩
    · simp [results, Try.results29, go_sem]
    · (repeat (first | exact Below.refl _ _ | assumption | refine Below.onNext ?_ _ | refine Below.onAlloc ?_ _ | refine Below.setCell ?_ (by simp) _ | refine Below.drew ?_))

def permX (N : Nat) (x : E) : Bool := decide (1 ≤ x.n ∧ 0 ≤ x.s ∧ x.s + x.n ≤ N)
set_option maxRecDepth 100000 in
set_option maxHeartbeats 1000000 in
theorem perm1_any (ok : Bool) (x : E) (a : Option Addr) (N c b : Nat) (w : World) (hc : w.cell? ⟨b, 0, none⟩ = some (.slice a N c)) (hx : x.wf) (hN : N ≤ 65536) :
    Calls Try.prog 85 #[.bool ok, .agg #[.int .i64 x.a, .int .i64 x.n, .int .i64 x.s], .pointer (some ⟨b, 0, none⟩)] w fun e w' => e = .returned (.bool (ok && permX N x)) ∧ Below w.heap.size w w' := by
  obtain ⟨_, ⟨b3, b4⟩, ⟨b5, b6⟩⟩ := hx
  cases ok
  all_goals
    go_enter Try.func85, Try.ntmps85
    go_wp2
    all_goals
      go_ret
      exact ⟨ret_bool (by simp [permX]; try omega), by (repeat (first | exact Below.refl _ _ | assumption | refine Below.onNext ?_ _ | refine Below.onAlloc ?_ _ | refine Below.setCell ?_ (by simp) _ | refine Below.drew ?_))⟩
theorem permB_next (N : Nat) (l : List E) (k : Nat) (h : k < l.length) : permB N (l.take (k + 1)) = (permB N (l.take k) && permX N l[k]) := permB_take N l k h
set_option maxRecDepth 100000 in
set_option maxHeartbeats 1000000 in
theorem foldP_any (l : List E) (a al : Option Addr) (N c cl b : Nat) (w : World) (hc : w.cell? ⟨b, 0, none⟩ = some (.slice a N c)) (hN : N ≤ 65536) (hr : Rd w al l) (hw : wfL l) :
    Calls Try.prog 84 #[.slice al l.length cl, .bool true, .func (.func 85) #[] #[.pointer (some ⟨b, 0, none⟩)]] w fun e w' => e = .returned (.bool (permB N l)) ∧ Below w.heap.size w w' := by
  have hlen := hr.1
  go_enter Try.func84, Try.ntmps84
  go_wp2_with fail
  go_loopw [1, 11] (fun r i wr => ∃ k : Nat, k ≤ l.length ∧ i = .int .i64 k ∧ r = .bool (permB N (l.take k)) ∧ Below w.heap.size w wr) (fun _ i _ => l.length - (intOf i).toNat)
  case atStart => exact ⟨0, Nat.zero_le _, rfl, rfl, Below.refl _ _⟩
  case round =>
    obtain ⟨k, hk, rfl, rfl, hB⟩ := hrel
    by_cases hlt : k < l.length
    · obtain ⟨b, o, rfl, hat⟩ := (hr.keep hB).at (by omega)
      obtain ⟨h1, h2, h3⟩ := hat k _ (List.getElem?_eq_getElem hlt)
      have HX := Lib.hid (hw _ (List.getElem_mem hlt))
      have HV := Lib.hid (permB_next N l k hlt)
      have hcr := hB.keep hc
      generalize l[k] = x at *
      generalize permB N (l.take k) = p at *
      clear hat hr hc
      go_wp2_with fail
      refine (perm1_any p x a N c _ _ (by simp [hcr]) HX.out hN).mono ?_
      rintro e w1 ⟨rfl, hb1⟩
      go_wp2_with fail
      go_roundw
      case rel => exact ⟨k + 1, by omega, by go_num, by rw [HV.out], (hB.onAlloc _).on hb1⟩
      case measure => simp [intOf]; omega
    · go_wp2
      go_ret
      exact ⟨ret_bool (by rw [List.take_of_length_le (by omega)]), hB⟩
set_option maxRecDepth 100000 in
set_option maxHeartbeats 1000000 in
theorem permitted_is (C : List Int) (l : List E) (a al : Option Addr) (c cl : Nat) (w : World) (hC : C.length ≤ 65536) (hr : Rd w al l) (hw : wfL l) (r : Bool) (hp : permB C.length l = r) :
    Calls Try.prog 51 #[.agg #[.slice a C.length c], .slice al l.length cl] w fun e w' => e = .returned (.bool r) ∧ Below w.heap.size w w' := by
  subst hp
  go_enter Try.func51, Try.ntmps51
  go_wp2_with fail
  refine (foldP_any l a al C.length c cl _ _ (by simp) hC (hr.keep ((Below.refl _ _).onAlloc _)) hw).mono ?_
  rintro e w1 ⟨rfl, hb1⟩
  go_wp2_with fail
  go_ret
  exact ⟨rfl, ((Below.refl _ _).onAlloc _).on hb1⟩

set_option maxRecDepth 100000 in
set_option maxHeartbeats 4000000 in
theorem changed_any (C : List Int) (l : List E) (d : Int) (a al : Option Addr) (c cl : Nat) (w : World) (hrC : RdI w a C) (hr : Rd w al l) (hp : permB C.length l = true) (hd : -1 ≤ d ∧ d ≤ 1) (hR : inR (-1000000000) 1000000000 C) (hl : l.length ≤ 1000000000) :
    Calls Try.prog 52 #[.agg #[.slice a C.length c], .slice al l.length cl, .int .i64 d] w fun e w' => ∃ v, e = .returned (.agg #[v]) ∧ OwnI w' w.heap.size v (chgL C l d) ∧ Below w.heap.size w w' := by
  have hC := hrC.1
  have hlen := hr.1
  have HP := Lib.hid ((permB_iff _ _).1 hp)
  have HR := Lib.hid hR
  clear hp hR
  go_enter Try.func52, Try.ntmps52
  go_upto_region 2 with ((at_make; refine wpList_make_I _ rfl _ _ 25 rfl Try.underlying25 _ _ C.length rfl rfl (by omega) w.heap.size (w.heap.size + 1 + 1) (by simp) (by omega) ?_; intro w1 ho1 hb1 hz1; have hc0 := hb1.keep (a := ⟨w.heap.size, 0, none⟩) (by simp; rfl); have hc := hb1.keep (a := ⟨w.heap.size + 1, 0, none⟩) (by simp; rfl); have hf := hb1.keepF (a := ⟨w.heap.size + 1, 0, none⟩) (by simp; rfl) (b := false) (by simp)))
  have hrC1 := hrC.keep ((((Below.refl w.heap.size w).onAlloc (.cells #[.slice a C.length c] 27)).onAlloc (.cells #[.slice none 0 0] 27)).on hb1)
  go_wp2_with (refine wpList_copy_I _ rfl (.tmp 15) (.tmp 17) 25 25 rfl Try.underlying25 w.heap.size _ C.length _ (List.replicate C.length 0) C a c rfl rfl ho1 (by simp) rfl hrC1 ?_; intro w2 ho2 hg2)
  have hc2 := hg2.cell hc (by simp)
  have hf2 := grown_free hg2 hc hf (by simp)
  have HB2 : Below w.heap.size w w2 := ((((Below.refl w.heap.size w).onAlloc (.cells #[.slice a C.length c] 27)).onAlloc (.cells #[.slice none 0 0] 27)).on hb1).onGrow hg2 (by intro j hj; simp at hj; omega)
  have hgl := (ho2.lt _ rfl).2
  simp only [World.size_alloc] at hgl
  clear ho1 hb1 hz1 hc0 hc hf hg2 hrC1 hrC
  go_loopw [21] (fun i wr => ∃ k : Nat, k ≤ l.length ∧ i = .int .i64 k ∧ OwnI wr w.heap.size (.slice (some ⟨w.heap.size + 1 + 1, 0, none⟩) C.length C.length) (chgL C (l.take k) d) ∧ w2.grownBy wr (some (w.heap.size + 1 + 1))) (fun i _ => l.length - (intOf i).toNat)
  case atStart => exact ⟨0, Nat.zero_le _, rfl, ho2, World.grownBy.refl _ _⟩
  case round =>
    obtain ⟨k, hk, rfl, ho, hg⟩ := hrel
    have hB := HB2.onGrow hg (by intro j hj; simp at hj; omega)
    by_cases hlt : k < l.length
    · obtain ⟨b, o, rfl, hat⟩ := (hr.keep hB).at (by omega)
      obtain ⟨h1, h2, h3⟩ := hat k _ (List.getElem?_eq_getElem hlt)
      obtain ⟨p1, p2, p3⟩ := HP.out _ (List.getElem_mem hlt)
      have HT := Lib.hid (chgL_take C l d k hlt)
      have HRk := Lib.hid (inR_mono (lo' := -2000000000) (hi' := 2000000000) (chgL_range (l.take k) d hd C _ _ HR.out) (by have := List.length_take_le k l; omega) (by have := List.length_take_le k l; omega))
      have HL := Lib.hid (chgL_length C (l.take k) d)
      generalize l[k] = x at *
      generalize chgL C (l.take k) d = D at *
      obtain ⟨xa, xn, xs⟩ := x
      simp only at h1 h2 h3 p1 p2 p3 HT
      obtain ⟨s, rfl⟩ := Int.eq_ofNat_of_zero_le p2
      obtain ⟨n, rfl⟩ := Int.eq_ofNat_of_zero_le (show 0 ≤ xn by omega)
      simp only [Int.toNat_natCast] at HT
      have HO := Lib.hid ho
      clear hat hr ho ho2
      go_wp2_with fail
      have hx1 : (wr.alloc (.cells #[.int .i64 xa, .int .i64 n, .int .i64 s] 41)).cell? ⟨wr.heap.size, 1, none⟩ = some (.int .i64 n) := by simp
      have hx2 : (wr.alloc (.cells #[.int .i64 xa, .int .i64 n, .int .i64 s] 41)).cell? ⟨wr.heap.size, 2, none⟩ = some (.int .i64 s) := by simp
      have hgW : w2.grownBy (wr.alloc (.cells #[.int .i64 xa, .int .i64 n, .int .i64 s] 41)) (some (w.heap.size + 1 + 1)) := World.grownBy.next hg (World.grownBy_alloc _ _ _)
      have HOW := Lib.hid (HO.out.keep ((Below.refl _ _).onAlloc (.cells #[.int .i64 xa, .int .i64 n, .int .i64 s] 41)))
      have hne : ¬ wr.heap.size = w.heap.size + 1 + 1 := by have := hg.size; omega
      generalize wr.alloc (.cells #[.int .i64 xa, .int .i64 n, .int .i64 s] 41) = W0 at *
      generalize wr.heap.size = X at *
      clear HO hB hg
      go_loopw [10] (fun t wi => ∃ p : Nat, s ≤ p ∧ p ≤ s + n ∧ t = .int .i64 p ∧ OwnI wi w.heap.size (.slice (some ⟨w.heap.size + 1 + 1, 0, none⟩) C.length C.length) (addR D s d (p - s)) ∧ W0.grownBy wi (some (w.heap.size + 1 + 1))) (fun t _ => s + n - (intOf t).toNat)
      case atStart => exact ⟨s, Nat.le_refl _, by omega, rfl, by rw [Nat.sub_self]; exact HOW.out, World.grownBy.refl _ _⟩
      case round =>
        obtain ⟨p, hp1, hp2, rfl, hoi, hgi⟩ := hrel
        have y1 := hgi.cell hx1 (by simpa using hne)
        have y2 := hgi.cell hx2 (by simpa using hne)
        have hgc := World.grownBy.next hgW hgi
        by_cases hlp : p < s + n
        · have HLA := Lib.hid (addR_length D s d (p - s))
          have hpl : p < D.length := by have := HL.out; omega
          have hpC : p < C.length := by have := HL.out; omega
          obtain ⟨z1, z2⟩ := inR_get.1 HRk.out p hpl
          have HG := Lib.hid (addR_get D s d (p - s) p hpl)
          have HS := Lib.hid (addR_step D s p d hp1 hpl)
          have hcell := hoi.cells.1 p _ (getD_some _ p (by rw [HLA.out]; exact hpl))
          have hfree := hoi.cells.2 p
          have hv1 : -2000000010 ≤ (addR D s d (p - s)).getD p 0 := by rw [HG.out]; split <;> omega
          have hv2 : (addR D s d (p - s)).getD p 0 ≤ 2000000010 := by rw [HG.out]; split <;> omega
          obtain ⟨HO2, hg3⟩ := OwnI.set (by rw [HLA.out, HL.out]) hoi p ((addR D s d (p - s)).getD p 0 + d)
          have HO2 := Lib.hid HO2
          rw [← HS.out] at HO2
          have HG3 := Lib.hid (World.grownBy.next hgi hg3)
          generalize (addR D s d (p - s)).getD p 0 = y at *
          clear hoi hg3 HG
          go_wp2_with fail
          go_roundw
          case rel => exact ⟨p + 1, by omega, by omega, by go_num, HO2.out, HG3.out⟩
          case measure => simp [intOf]; omega
        · obtain rfl : p = s + n := by omega
          rw [show s + n - s = n by omega] at hoi
          have HOI := Lib.hid hoi
          clear hoi
          go_wp2_with fail
          go_roundw
          case rel => exact ⟨k + 1, by omega, by go_num, by rw [HT.out]; exact HOI.out, hgc⟩
          case measure => simp [intOf]; omega
    · have hc3 := hg.cell hc2 (by simp)
      have hf3 := grown_free hg hc2 hf2 (by simp)
      rw [List.take_of_length_le (by omega)] at ho
      go_wp2
      refine bodyPost_ret (v := .agg #[.slice (some ⟨w.heap.size + 1 + 1, 0, none⟩) C.length C.length]) ?_ rfl ⟨_, rfl, ?_, ?_⟩
      · simp [results, Try.results52, go_sem, hc3, hf3]
      · have := ho.away ⟨w.heap.size + 1, 0, none⟩ (.slice (some ⟨w.heap.size + 1 + 1, 0, none⟩) C.length C.length) (by simp [Value.ownBlock])
        simpa using this
      · exact hB.setCell (by simp) _
end Go.Proofs.Ytolhajkbamhdgaa
