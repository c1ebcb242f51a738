/-
  package alloc: run, end, size, clip.
  Conditions: as each theorem says.
-/
import Derived.Test.YtolhajkbamhdgaaAlP
import Derived.Test.YtolhajkbamhdgaaRuS
import Derived.Test.YtolhajkbamhdgaaTgO
import Derived.Deep.RegionHeld3
namespace Go.Proofs.Ytolhajkbamhdgaa
set_option linter.unusedSimpArgs false
set_option linter.unusedVariables false
open Go.RowKit

set_option maxRecDepth 100000 in
set_option maxHeartbeats 1000000 in
theorem arun_any (f t : Int) (w : World) (h0 : -9223372036854775808 ≤ t - f) (h1 : t - f ≤ 9223372036854775807) :
    Calls Try.prog 107 #[.int .i64 f, .int .i64 t] w fun e w' => e = .returned (.agg #[.int .i64 (runE f t).a, .int .i64 (runE f t).n, .int .i64 (runE f t).s]) ∧ Below w.heap.size w w' := by
  go_enter Try.func107, Try.ntmps107
  go_wp2
  refine bodyPost_ret (v := .agg #[.int .i64 0, .int .i64 (t - f), .int .i64 f]) ?_ rfl ⟨rfl, ?_⟩
  · simp [results, Try.results107, go_sem]
  · (repeat (first | exact Below.refl _ _ | assumption | refine Below.onNext ?_ _ | refine Below.onAlloc ?_ _ | refine Below.setCell ?_ (by simp) _ | refine Below.drew ?_))
set_option maxHeartbeats 1000000 in
theorem aend_any (a n s : Int) (w : World) (h0 : -9223372036854775808 ≤ s + n) (h1 : s + n ≤ 9223372036854775807) :
    Calls Try.prog 74 #[.agg #[.int .i64 a, .int .i64 n, .int .i64 s]] w fun e w' => e = .returned (.int .i64 (s + n)) ∧ Below w.heap.size w w' := by
  go_enter Try.func74, Try.ntmps74
  go_wp2
  go_ret
  exact ⟨rfl, (Below.refl _ _).onAlloc _⟩
theorem lenL_bd' (l : List E) (M : Int) (h : ∀ x ∈ l, 0 ≤ x.n ∧ x.n ≤ M) : 0 ≤ lenL l ∧ lenL l ≤ M * l.length := by
  induction l with
  | nil => simp [lenL]
  | cons x r ih =>
    have h1 := h x (by simp)
    have h2 := ih fun y hy => h y (by simp [hy])
    rw [lenL_cons, List.length_cons, show ((r.length + 1 : Nat) : Int) = r.length + 1 by omega, Int.mul_add]
    omega
set_option maxRecDepth 100000 in
set_option maxHeartbeats 1000000 in
theorem asize_any (l : List E) (a : Option Addr) (c : Nat) (w : World) (hr : Rd w a l) (hn : ∀ x ∈ l, 0 ≤ x.n ∧ x.n ≤ 65536) (hl : l.length ≤ 1000000000) :
    Calls Try.prog 70 #[.slice a l.length c] w fun e w' => e = .returned (.int .i64 (lenL l)) ∧ Below w.heap.size w w' := by
  have HM := Lib.hid hn
  clear hn
  go_enter Try.func70, Try.ntmps70
  go_wp2_with fail
  go_loopw [3, 8] (fun v t wr => ∃ k : Nat, k ≤ l.length ∧ t = .int .i64 k ∧ v = .int .i64 (lenL (l.take k)) ∧ Below w.heap.size w wr) (fun _ t _ => l.length - (intOf t).toNat)
  case atStart => exact ⟨0, Nat.zero_le _, rfl, rfl, Below.refl _ _⟩
  case round =>
    obtain ⟨k, hk, rfl, rfl, hBk⟩ := hrel
    by_cases hlt : k < l.length
    · obtain ⟨b, o, rfl, hat⟩ := (hr.keep hBk).at (by omega)
      obtain ⟨h1, h2, h3⟩ := hat k _ (List.getElem?_eq_getElem hlt)
      have HT := Lib.hid (lenL_take l k hlt)
      obtain ⟨m1, m2⟩ := HM.out _ (List.getElem_mem hlt)
      obtain ⟨q1, q2⟩ := lenL_bd' (l.take k) 65536 (fun x hx => HM.out x (List.mem_of_mem_take hx))
      have hle := List.length_take_le k l
      have q3 : lenL (l.take k) ≤ 65536000000000 := by omega
      generalize l[k] = x at *
      generalize lenL (l.take k) = sm at *
      clear hat q2 hr
      go_wp2
      go_roundw
      case rel => exact ⟨k + 1, by omega, by go_num, by rw [HT.out], hBk.onAlloc _⟩
      case measure => simp [intOf]; omega
    · obtain rfl : k = l.length := by omega
      rw [List.take_length]
      go_wp2
      go_ret
      exact ⟨rfl, hBk⟩

/-- The two results of clip. -/
def ClipPost (w : World) (F B : List E) (e : Ending) (w' : World) : Prop :=
  ∃ v m, e = .returned (.tuple #[v, m]) ∧ OwnE w' w.heap.size v F ∧ OwnE w' w.heap.size m B ∧ (v.ownBlock = none ∨ v.ownBlock ≠ m.ownBlock) ∧ Below w.heap.size w w'
set_option maxRecDepth 100000 in
set_option maxHeartbeats 4000000 in
theorem clip_any (l : List E) (p : Int) (a : Option Addr) (c : Nat) (w : World) (hr : Rd w a l) (hok : ∀ x ∈ l, okB x = true) (hl : l.length ≤ 1000000) (hp : 0 ≤ p ∧ p ≤ 65536) :
    Calls Try.prog 94 #[.slice a l.length c, .int .i64 p] w (ClipPost w (fromL l p) (beforeL l p)) := by
  have HO := Lib.hid hok
  obtain ⟨p0, p1⟩ := hp
  obtain ⟨i0, hi, hz0, hz1, hz2⟩ := info_parts infoE
  clear hok
  go_enter Try.func94, Try.ntmps94
  go_wp2_with fail
  go_loopw [4, 5, 10] (fun v m i wr => ∃ k : Nat, k ≤ l.length ∧ i = .int .i64 k ∧ OwnE wr w.heap.size v (fromL (l.take k) p) ∧ OwnE wr w.heap.size m (beforeL (l.take k) p) ∧ (v.ownBlock = none ∨ v.ownBlock ≠ m.ownBlock) ∧ Below w.heap.size w wr) (fun _ _ i _ => l.length - (intOf i).toNat)
  case atStart => exact ⟨0, Nat.zero_le _, rfl, OwnE.nil _ _, OwnE.nil _ _, .inl rfl, Below.refl _ _⟩
  case round =>
    obtain ⟨k, hk, rfl, hoR, hoM, hsep, hB⟩ := hrel
    by_cases hlt : k < l.length
    · obtain ⟨b, o, rfl, hat⟩ := (hr.keep hB).at (by omega)
      obtain ⟨h1, h2, h3⟩ := hat k _ (List.getElem?_eq_getElem hlt)
      obtain ⟨c1, c2, c3, c4, c5⟩ := (okB_iff _).1 (HO.out _ (List.getElem_mem hlt))
      have HF := Lib.hid (fromL_take l p k hlt)
      have HBf := Lib.hid (beforeL_take l p k hlt)
      have lF := Nat.le_trans (fromL_length (l.take k) p) (List.length_take_le k l)
      have lB := Nat.le_trans (beforeL_length (l.take k) p) (List.length_take_le k l)
      generalize l[k] = x at *
      generalize fromL (l.take k) p = R at *
      generalize beforeL (l.take k) p = M at *
      have S : Hid (St w (wr.alloc (.cells #[.int .i64 x.a, .int .i64 x.n, .int .i64 x.s] 41)) wr.heap.size x u4 R u5 M) :=
        Lib.hid ⟨by simp, by simp, by simp, hoR.keep ((Below.refl _ _).onAlloc _), hoM.keep ((Below.refl _ _).onAlloc _), fun e => by have := (hoR.lt _ e).2; omega, fun e => by have := (hoM.lt _ e).2; omega, hsep, hB.onAlloc _⟩
      clear hat hr hoR hoM
      by_cases hx1 : x.s < p
      · by_cases hx2 : p < x.s + x.n
        · go_wp2_with fail
          generalize wr.alloc (.cells #[.int .i64 x.a, .int .i64 x.n, .int .i64 x.s] 41) = W0 at *
          generalize wr.heap.size = X at *
          have hx0 := S.out.x1
          have hx3 := S.out.x2
          have hx4 := S.out.x3
          have S := Lib.hid (S.out.later (Below.refl _ _).drew)
          go_region_held3 (fun w' => w'.cell? ⟨X, 0, none⟩ = some (.int .i64 x.a) ∧ w'.cell? ⟨X, 1, none⟩ = some (.int .i64 x.n) ∧ w'.cell? ⟨X, 2, none⟩ = some (.int .i64 x.s))
            (first | exact ⟨S.out.x1, S.out.x2, S.out.x3⟩ | exact ⟨(S.out.alloc _).x1, (S.out.alloc _).x2, (S.out.alloc _).x3⟩)
            (first
              | (go_at_call 74; refine (aend_any _ _ _ _ (by omega) (by omega)).mono ?_; rintro e w3 ⟨rfl, hb3⟩; have S := Lib.hid (S.out.later hb3))
              | (go_at_call 107; refine (arun_any _ _ _ (by omega) (by omega)).mono ?_; rintro e w4 ⟨rfl, hb4⟩; have S := Lib.hid (S.out.later hb4))
              | (refine step_append_x _ (by rfl) _ _ 32 (by rfl) w.heap.size 41 i0 (.agg #[.int .i64 0, .int .i64 0, .int .i64 0]) 3 24 Try.underlying32 hi hz0 hz1 hz2 rfl (by decide) u5 _ _ (by rfl) (S.out.alloc _).hM ⟨w4.heap.size, 0, none⟩ 1 1 (E.cells (runE x.s (min (x.s + x.n) p))) (by rfl) rfl (newE _ _ (by simp) _ _) (cellsE_one _) (by omega) (by simp only [maxLen]; omega) (by have := S.out.hB.size; simp only [World.size_alloc]; omega) ?_; intro v1 w5 hown1 hgrow1 hwhere1; have S := Lib.hid ((S.out.alloc _).pushM (OwnE.snoc hown1 rfl) hgrow1 (hwhere1.imp id fun h => ⟨_, h, Nat.le_refl _⟩))))
          go_wp2_with fail
          refine (aend_any _ _ _ _ (by omega) (by omega)).mono ?_
          rintro e w6 ⟨rfl, hb6⟩
          have S := Lib.hid (S.out.later hb6)
          have hx0 := S.out.x1
          have hx3 := S.out.x2
          have hx4 := S.out.x3
          go_wp2_with fail
          have hx0 := S.out.x1
          have hx3 := S.out.x2
          have hx4 := S.out.x3
          have S := Lib.hid (S.out.later (Below.refl _ _).drew)
          go_region_held3 (fun w' => w'.cell? ⟨X, 0, none⟩ = some (.int .i64 x.a) ∧ w'.cell? ⟨X, 1, none⟩ = some (.int .i64 x.n) ∧ w'.cell? ⟨X, 2, none⟩ = some (.int .i64 x.s))
            (first | exact ⟨S.out.x1, S.out.x2, S.out.x3⟩ | exact ⟨(S.out.alloc _).x1, (S.out.alloc _).x2, (S.out.alloc _).x3⟩)
            (first
              | (go_at_call 74; refine (aend_any _ _ _ _ (by omega) (by omega)).mono ?_; rintro e w3 ⟨rfl, hb3⟩; have S := Lib.hid (S.out.later hb3))
              | (go_at_call 107; refine (arun_any _ _ _ (by omega) (by omega)).mono ?_; rintro e w4 ⟨rfl, hb4⟩; have S := Lib.hid (S.out.later hb4))
              | (refine step_append_x _ (by rfl) _ _ 32 (by rfl) w.heap.size 41 i0 (.agg #[.int .i64 0, .int .i64 0, .int .i64 0]) 3 24 Try.underlying32 hi hz0 hz1 hz2 rfl (by decide) u4 _ _ (by rfl) (S.out.alloc _).hR ⟨w4.heap.size, 0, none⟩ 1 1 (E.cells (runE (max x.s p) (x.s + x.n))) (by rfl) rfl (newE _ _ (by simp) _ _) (cellsE_one _) (by omega) (by simp only [maxLen]; omega) (by have := S.out.hB.size; simp only [World.size_alloc]; omega) ?_; intro v1 w5 hown1 hgrow1 hwhere1; have S := Lib.hid ((S.out.alloc _).pushR (OwnE.snoc hown1 rfl) hgrow1 (hwhere1.imp id fun h => ⟨_, h, Nat.le_refl _⟩))))
          all_goals
            go_wp2_with fail
            go_roundw
            case rel => exact ⟨k + 1, by omega, by go_num, by rw [HF.out, if_pos hx2]; exact S.out.hR, by rw [HBf.out, if_pos hx1]; exact S.out.hM, S.out.sep, S.out.hB⟩
            case measure => simp [intOf]; omega
        · go_wp2_with fail
          generalize wr.alloc (.cells #[.int .i64 x.a, .int .i64 x.n, .int .i64 x.s] 41) = W0 at *
          generalize wr.heap.size = X at *
          have hx0 := S.out.x1
          have hx3 := S.out.x2
          have hx4 := S.out.x3
          have S := Lib.hid (S.out.later (Below.refl _ _).drew)
          go_region_held3 (fun w' => w'.cell? ⟨X, 0, none⟩ = some (.int .i64 x.a) ∧ w'.cell? ⟨X, 1, none⟩ = some (.int .i64 x.n) ∧ w'.cell? ⟨X, 2, none⟩ = some (.int .i64 x.s))
            (first | exact ⟨S.out.x1, S.out.x2, S.out.x3⟩ | exact ⟨(S.out.alloc _).x1, (S.out.alloc _).x2, (S.out.alloc _).x3⟩)
            (first
              | (go_at_call 74; refine (aend_any _ _ _ _ (by omega) (by omega)).mono ?_; rintro e w3 ⟨rfl, hb3⟩; have S := Lib.hid (S.out.later hb3))
              | (go_at_call 107; refine (arun_any _ _ _ (by omega) (by omega)).mono ?_; rintro e w4 ⟨rfl, hb4⟩; have S := Lib.hid (S.out.later hb4))
              | (refine step_append_x _ (by rfl) _ _ 32 (by rfl) w.heap.size 41 i0 (.agg #[.int .i64 0, .int .i64 0, .int .i64 0]) 3 24 Try.underlying32 hi hz0 hz1 hz2 rfl (by decide) u5 _ _ (by rfl) (S.out.alloc _).hM ⟨w4.heap.size, 0, none⟩ 1 1 (E.cells (runE x.s (min (x.s + x.n) p))) (by rfl) rfl (newE _ _ (by simp) _ _) (cellsE_one _) (by omega) (by simp only [maxLen]; omega) (by have := S.out.hB.size; simp only [World.size_alloc]; omega) ?_; intro v1 w5 hown1 hgrow1 hwhere1; have S := Lib.hid ((S.out.alloc _).pushM (OwnE.snoc hown1 rfl) hgrow1 (hwhere1.imp id fun h => ⟨_, h, Nat.le_refl _⟩))))
          go_wp2_with fail
          refine (aend_any _ _ _ _ (by omega) (by omega)).mono ?_
          rintro e w6 ⟨rfl, hb6⟩
          have S := Lib.hid (S.out.later hb6)
          have hx0 := S.out.x1
          have hx3 := S.out.x2
          have hx4 := S.out.x3
          all_goals
            go_wp2_with fail
            go_roundw
            case rel => exact ⟨k + 1, by omega, by go_num, by rw [HF.out, if_neg (show ¬ p < x.s + x.n by omega)]; exact S.out.hR, by rw [HBf.out, if_pos hx1]; exact S.out.hM, S.out.sep, S.out.hB⟩
            case measure => simp [intOf]; omega
      · by_cases hx2 : p < x.s + x.n
        · go_wp2_with fail
          generalize wr.alloc (.cells #[.int .i64 x.a, .int .i64 x.n, .int .i64 x.s] 41) = W0 at *
          generalize wr.heap.size = X at *
          refine (aend_any _ _ _ _ (by omega) (by omega)).mono ?_
          rintro e w6 ⟨rfl, hb6⟩
          have S := Lib.hid (S.out.later hb6)
          have hx0 := S.out.x1
          have hx3 := S.out.x2
          have hx4 := S.out.x3
          go_wp2_with fail
          have hx0 := S.out.x1
          have hx3 := S.out.x2
          have hx4 := S.out.x3
          have S := Lib.hid (S.out.later (Below.refl _ _).drew)
          go_region_held3 (fun w' => w'.cell? ⟨X, 0, none⟩ = some (.int .i64 x.a) ∧ w'.cell? ⟨X, 1, none⟩ = some (.int .i64 x.n) ∧ w'.cell? ⟨X, 2, none⟩ = some (.int .i64 x.s))
            (first | exact ⟨S.out.x1, S.out.x2, S.out.x3⟩ | exact ⟨(S.out.alloc _).x1, (S.out.alloc _).x2, (S.out.alloc _).x3⟩)
            (first
              | (go_at_call 74; refine (aend_any _ _ _ _ (by omega) (by omega)).mono ?_; rintro e w3 ⟨rfl, hb3⟩; have S := Lib.hid (S.out.later hb3))
              | (go_at_call 107; refine (arun_any _ _ _ (by omega) (by omega)).mono ?_; rintro e w4 ⟨rfl, hb4⟩; have S := Lib.hid (S.out.later hb4))
              | (refine step_append_x _ (by rfl) _ _ 32 (by rfl) w.heap.size 41 i0 (.agg #[.int .i64 0, .int .i64 0, .int .i64 0]) 3 24 Try.underlying32 hi hz0 hz1 hz2 rfl (by decide) u4 _ _ (by rfl) (S.out.alloc _).hR ⟨w4.heap.size, 0, none⟩ 1 1 (E.cells (runE (max x.s p) (x.s + x.n))) (by rfl) rfl (newE _ _ (by simp) _ _) (cellsE_one _) (by omega) (by simp only [maxLen]; omega) (by have := S.out.hB.size; simp only [World.size_alloc]; omega) ?_; intro v1 w5 hown1 hgrow1 hwhere1; have S := Lib.hid ((S.out.alloc _).pushR (OwnE.snoc hown1 rfl) hgrow1 (hwhere1.imp id fun h => ⟨_, h, Nat.le_refl _⟩))))
          all_goals
            go_wp2_with fail
            go_roundw
            case rel => exact ⟨k + 1, by omega, by go_num, by rw [HF.out, if_pos hx2]; exact S.out.hR, by rw [HBf.out, if_neg (show ¬ x.s < p by omega)]; exact S.out.hM, S.out.sep, S.out.hB⟩
            case measure => simp [intOf]; omega
        · exfalso; omega
    · go_wp2
      go_ret2
      rw [List.take_of_length_le (by omega)] at hoR hoM
      exact ⟨_, _, rfl, hoR, hoM, hsep, hB⟩
end Go.Proofs.Ytolhajkbamhdgaa
