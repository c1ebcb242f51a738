/-
  The specification tegularef35: New, Free, room, size, some, Runs, Largest.
  Conditions: as each theorem says.
-/
import Derived.Test.YtolhajkbamhdgaaAlU
import Derived.Test.YtolhajkbamhdgaaRcA
import Derived.Test.YtolhajkbamhdgaaRuR
namespace Go.Proofs.Ytolhajkbamhdgaa
set_option linter.unusedSimpArgs false
set_option linter.unusedVariables false
open Go.RowKit

set_option maxRecDepth 100000 in
set_option maxHeartbeats 1000000 in
theorem qnew_yes (n : Nat) (w : World) (hn : n ≤ 65536) :
    Calls Try.prog 75 #[.int .i64 n] w fun e w' => ∃ v, e = .returned (.tuple #[v, .int .i64 0]) ∧ OwnM w' w.heap.size v (List.replicate n false) ∧ Below w.heap.size w w' := by
  go_enter Try.func75, Try.ntmps75
  go_wp2_with ((at_make; refine wpList_make_M _ rfl _ _ 67 rfl Try.underlying67 _ _ n rfl rfl (by omega) w.heap.size w.heap.size rfl (by omega) ?_; intro w1 ho1 hb1 hz1))
  go_ret2
  exact ⟨_, rfl, ho1, hb1⟩
set_option maxRecDepth 100000 in
set_option maxHeartbeats 1000000 in
theorem qnew_no (n : Int) (w : World) (h : n < 0 ∨ 65536 < n) :
    Calls Try.prog 75 #[.int .i64 n] w fun e w' => e = .returned (.tuple #[.slice none 0 0, .int .i64 1]) ∧ Below w.heap.size w w' := by
  rcases h with h | h
  all_goals
    go_enter Try.func75, Try.ntmps75
    go_wp2
    go_ret2
    exact ⟨rfl, Below.refl _ _⟩
theorem freeF_get (M : List Bool) (k : Nat) (h : k < M.length) : freeF M k = !M[k] := by
  unfold freeF
  rw [List.getD_eq_getElem?_getD, List.getElem?_eq_getElem h]
  rfl
theorem area_succ (M : List Bool) (k : Nat) (h : k < M.length) : area (freeF M) (k + 1) = area (freeF M) k + if M[k] = true then 0 else 1 := by
  simp only [area, freeF_get M k h]
  cases M[k] <;> rfl
set_option maxRecDepth 100000 in
set_option maxHeartbeats 1000000 in
theorem qfree_any (M : List Bool) (a : Option Addr) (c : Nat) (w : World) (hr : RdM w a M) (hN : M.length ≤ 65536) :
    Calls Try.prog 45 #[.slice a M.length c] w fun e w' => e = .returned (.int .i64 (area (freeF M) M.length : Nat)) ∧ Below w.heap.size w w' := by
  go_enter Try.func45, Try.ntmps45
  go_wp2
  go_loopw [3, 4] (fun n t wr => ∃ k : Nat, k ≤ M.length ∧ t = .int .i64 k ∧ n = .int .i64 (area (freeF M) k : Nat) ∧ Below w.heap.size w wr) (fun _ t _ => M.length - (intOf t).toNat)
  case atStart => exact ⟨0, Nat.zero_le _, rfl, rfl, Below.refl _ _⟩
  case round =>
    obtain ⟨k, hk, rfl, rfl, hBk⟩ := hrel
    by_cases hlt : k < M.length
    · obtain ⟨b, o, rfl, hat⟩ := (hr.keep hBk).at (by omega)
      have h1 := hat k _ (List.getElem?_eq_getElem hlt)
      have HT := Lib.hid (area_succ M k hlt)
      have hm := area_le (freeF M) k
      generalize M[k] = x at *
      generalize area (freeF M) k = sm at *
      clear hat hr
      cases x
      all_goals
        go_wp2
        go_roundw
        case rel => exact ⟨k + 1, by omega, by go_num, by rw [HT.out]; go_num, hBk⟩
        case measure => simp [intOf]; omega
    · obtain rfl : k = M.length := by omega
      go_wp2
      go_ret
      exact ⟨rfl, hBk⟩
theorem room_end (M : List Bool) (s n : Nat) (h : ∀ i, s ≤ i → i < s + n → freeF M i = true) : roomB M s n = true :=
  (roomB_iff _ _ _).2 fun j hj => h _ (by omega) (by omega)
theorem room_stop (M : List Bool) (s n p : Nat) (h1 : s ≤ p) (h2 : p < s + n) (h : freeF M p = false) : roomB M s n = false := by
  obtain ⟨j, rfl⟩ : ∃ j, p = s + j := ⟨p - s, by omega⟩
  exact room_not (by omega) h
def RoomPost (M : List Bool) (s n : Nat) (w : World) (e : Ending) (w' : World) : Prop := e = .returned (.bool (roomB M s n)) ∧ Below w.heap.size w w'
set_option maxRecDepth 100000 in
set_option maxHeartbeats 1000000 in
theorem qroom_any (M : List Bool) (s n : Nat) (a : Option Addr) (c : Nat) (w : World) (hr : RdM w a M) (hN : M.length ≤ 65536) (hs : s ≤ 65536) (hn : n ≤ 65536) :
    Calls Try.prog 97 #[.slice a M.length c, .int .i64 s, .int .i64 n] w (RoomPost M s n w) := by
  go_enter Try.func97, Try.ntmps97
  go_wp2_with fail
  go_loopw [7] (fun t wr => ∃ p : Nat, s ≤ p ∧ p ≤ s + n ∧ t = .int .i64 p ∧ (∀ i, s ≤ i → i < p → freeF M i = true) ∧ Below w.heap.size w wr) (fun t _ => s + n - (intOf t).toNat)
  case atStart => exact ⟨s, Nat.le_refl _, by omega, rfl, fun i h1 h2 => absurd h1 (by omega), Below.refl _ _⟩
  case round =>
    obtain ⟨p, hp1, hp2, rfl, hall, hB⟩ := hrel
    have HA := Lib.hid hall
    clear hall
    by_cases hlp : p < s + n
    · have hlpb : decide ((p : Int) < ↑s + ↑n) = true := decide_eq_true (by omega)
      by_cases hlt : p < M.length
      · obtain ⟨b, o, rfl, hat⟩ := (hr.keep hB).at (by omega)
        have h1 := hat p _ (List.getElem?_eq_getElem hlt)
        have HT := Lib.hid (freeF_get M p hlt)
        generalize M[p] = x at *
        clear hat hr
        cases x
        · go_wp2
          go_roundw
          case rel => exact ⟨p + 1, by omega, by omega, by go_num, fun i h1 h2 => (by
            by_cases he : i = p
            · subst he; rw [HT.out]; rfl
            · exact HA.out i h1 (by omega)), hB⟩
          case measure => simp [intOf]; omega
        · have HF := Lib.hid (room_stop M s n p hp1 hlp (by rw [HT.out]; rfl))
          go_wp2
          go_ret
          exact ⟨ret_bool (by rw [HF.out]), hB⟩
      · have HF := Lib.hid (room_stop M s n p hp1 hlp (freeF_far M p (by omega)))
        clear hr
        go_wp2
        go_ret
        exact ⟨ret_bool (by rw [HF.out]), hB⟩
    · have hlpb : decide ((p : Int) < ↑s + ↑n) = false := decide_eq_false (by omega)
      have HF := Lib.hid (room_end M s n fun i h1 h2 => HA.out i h1 (by omega))
      clear hr
      go_wp2
      go_ret
      exact ⟨ret_bool (by rw [HF.out]), hB⟩
theorem lenL_bd2 (l : List E) (M : Int) (h : ∀ x ∈ l, 0 ≤ x.n ∧ x.n ≤ M) : 0 ≤ lenL l ∧ lenL l ≤ M * l.length := by
  induction l with
  | nil => simp [lenL]
  | cons x r ih =>
    have h1 := h x (by simp)
    have h2 := ih fun y hy => h y (by simp [hy])
    rw [lenL_cons, List.length_cons, show ((r.length + 1 : Nat) : Int) = r.length + 1 by omega, Int.mul_add]
    omega
set_option maxRecDepth 100000 in
set_option maxHeartbeats 1000000 in
theorem qsize_any (l : List E) (a : Option Addr) (c : Nat) (w : World) (hr : Rd w a l) (hn : ∀ x ∈ l, 0 ≤ x.n ∧ x.n ≤ 65536) (hl : l.length ≤ 1000000000) :
    Calls Try.prog 99 #[.slice a l.length c] w fun e w' => e = .returned (.int .i64 (lenL l)) ∧ Below w.heap.size w w' := by
  have HM := Lib.hid hn
  clear hn
  go_enter Try.func99, Try.ntmps99
  go_wp2_with fail
  go_loopw [3, 4] (fun v t wr => ∃ k : Nat, k ≤ l.length ∧ t = .int .i64 k ∧ v = .int .i64 (lenL (l.take k)) ∧ Below w.heap.size w wr) (fun _ t _ => l.length - (intOf t).toNat)
  case atStart => exact ⟨0, Nat.zero_le _, rfl, rfl, Below.refl _ _⟩
  case round =>
    obtain ⟨k, hk, rfl, rfl, hBk⟩ := hrel
    by_cases hlt : k < l.length
    · obtain ⟨b, o, rfl, hat⟩ := (hr.keep hBk).at (by omega)
      obtain ⟨h1, h2, h3⟩ := hat k _ (List.getElem?_eq_getElem hlt)
      have HT := Lib.hid (lenL_take l k hlt)
      obtain ⟨m1, m2⟩ := HM.out _ (List.getElem_mem hlt)
      obtain ⟨q1, q2⟩ := lenL_bd2 (l.take k) 65536 (fun x hx => HM.out x (List.mem_of_mem_take hx))
      have hle := List.length_take_le k l
      have q3 : lenL (l.take k) ≤ 65536000000000 := by omega
      generalize l[k] = x at *
      generalize lenL (l.take k) = sm at *
      clear hat q2 hr
      go_wp2
      go_roundw
      case rel => exact ⟨k + 1, by omega, by go_num, by rw [HT.out], hBk⟩
      case measure => simp [intOf]; omega
    · obtain rfl : k = l.length := by omega
      rw [List.take_length]
      go_wp2
      go_ret
      exact ⟨rfl, hBk⟩
set_option maxRecDepth 100000 in
set_option maxHeartbeats 2000000 in
theorem qsome_any (M : List Bool) (s t n : Nat) (a : Option Addr) (c : Nat) (w : World) (hr : RdM w a M) (hN : M.length ≤ 65536) (hs : s ≤ t) (ht : t ≤ M.length) (hn : n ≤ 65536) :
    Calls Try.prog 98 #[.slice a M.length c, .int .i64 s, .int .i64 t, .int .i64 n] w fun e w' => ∃ v, e = .returned v ∧ OwnE w' w.heap.size v (someL M s t n) ∧ Below w.heap.size w w' := by
  obtain ⟨i0, hi, hz0, hz1, hz2⟩ := info_parts infoE
  go_enter Try.func98, Try.ntmps98
  go_wp2_with fail
  go_loopw [9, 10] (fun v i wr => ∃ p : Nat, s ≤ p ∧ p ≤ t ∧ i = .int .i64 p ∧ OwnE wr w.heap.size v (picks (firstF (fromF M s) n) p) ∧ Below w.heap.size w wr) (fun _ i _ => t - (intOf i).toNat)
  case atStart => exact ⟨s, Nat.le_refl _, hs, rfl, by rw [some_start]; exact OwnE.nil _ _, Below.refl _ _⟩
  case round =>
    obtain ⟨p, hp1, hp2, rfl, ho, hB⟩ := hrel
    have hL := picks_length (firstF (fromF M s) n) p
    have HFull := Lib.hid (some_full M s p t n hp2)
    have HYes := Lib.hid (some_yes M s p n hp1)
    have HNo := Lib.hid (some_no M s p n)
    have HW := Lib.hid (picks_wf (firstF (fromF M s) n) t (by omega))
    obtain ⟨a1, c1, rfl, hr1⟩ := ho.rd (by omega)
    have HO := Lib.hid ho
    have hsz := hB.size
    by_cases hlt : p < t
    · by_cases hln : (picks (firstF (fromF M s) n) p).length < n
      · obtain ⟨b, o, rfl, hat⟩ := (hr.keep hB).at (by omega)
        have h1 := hat p _ (List.getElem?_eq_getElem (by omega))
        have HT := Lib.hid (freeF_get M p (by omega))
        generalize M[p] = x at *
        generalize picks (firstF (fromF M s) n) p = L at *
        clear hat hr ho hr1
        cases x
        · have HP := Lib.hid (HYes.out hln (by rw [HT.out]; rfl))
          go_wp2_with (at_builtin; refine wpList_append_x _ rfl _ _ 32 rfl w.heap.size 41 i0 (.agg #[.int .i64 0, .int .i64 0, .int .i64 0]) 3 24 Try.underlying32 hi hz0 hz1 hz2 rfl (by decide) _ _ _ rfl (World.ownsRow.alloc HO.out _) ⟨wr.heap.size, 0, none⟩ 1 1 (E.cells (⟨0, 1, p⟩ : E)) rfl rfl (newE _ _ (by simp) _ _) (cellsE_one _) (by first | omega | (simp only [List.length_nil, List.length_append, List.length_cons]; omega)) (by first | (simp only [maxLen]; omega) | (simp only [maxLen, List.length_nil, List.length_append, List.length_cons]; omega)) (by simp only [World.size_alloc]; omega) ?_; intro v1 w1 hown1 hgrow1 hwhere1)
          have hB5 := Lib.hid ((hB.onAlloc (.cells #[.int .i64 0, .int .i64 1, .int .i64 p] 41)).onGrow hgrow1 fun j hj => (HO.out.lt j hj).1)
          have HO5 := Lib.hid (OwnE.snoc hown1 (by simp))
          clear hown1 hgrow1 hwhere1
          go_roundw
          case rel => exact ⟨p + 1, by omega, by omega, by go_num, by rw [HP.out]; exact HO5.out, hB5.out⟩
          case measure => simp [intOf]; omega
        · have HP := Lib.hid (HNo.out (by rw [HT.out]; rfl))
          go_wp2_with fail
          go_roundw
          case rel => exact ⟨p + 1, by omega, by omega, by go_num, by rw [HP.out]; exact HO.out, hB⟩
          case measure => simp [intOf]; omega
      · have HP := Lib.hid (HFull.out (by omega))
        have HR := Lib.hid (by rw [← HP.out] at hr1; exact hr1 : Rd wr a1 (picks (firstF (fromF M s) n) t))
        have HLE : Hid ((picks (firstF (fromF M s) n) t).length = (picks (firstF (fromF M s) n) p).length) := Lib.hid (by rw [HP.out])
        generalize picks (firstF (fromF M s) n) p = L at *
        clear hr ho hr1
        go_wp2_with fail
        have hcon := rruns_any _ a1 c1 wr HR.out HW.out
        rw [HLE.out] at hcon
        refine hcon.mono ?_
        rintro e w2 ⟨v2, rfl, ho2, hb2⟩
        go_wp2_with fail
        go_ret
        exact ⟨_, rfl, ho2.mono hsz, hB.on hb2⟩
    · obtain rfl : p = t := by omega
      have HR := Lib.hid hr1
      clear hr ho hr1
      go_wp2_with fail
      refine (rruns_any _ a1 c1 wr HR.out HW.out).mono ?_
      rintro e w2 ⟨v2, rfl, ho2, hb2⟩
      go_wp2_with fail
      go_ret
      exact ⟨_, rfl, ho2.mono hsz, hB.on hb2⟩
set_option maxRecDepth 100000 in
set_option maxHeartbeats 1000000 in
theorem qruns_any (M : List Bool) (a : Option Addr) (c : Nat) (w : World) (hr : RdM w a M) (hN : M.length ≤ 65536) :
    Calls Try.prog 79 #[.slice a M.length c] w fun e w' => ∃ v, e = .returned v ∧ OwnE w' w.heap.size v (freeR M) ∧ Below w.heap.size w w' := by
  have HR := Lib.hid hr
  have HA := Lib.hid (some_all M)
  have hcon := qsome_any M 0 M.length M.length a c w hr hN (Nat.zero_le _) (Nat.le_refl _) hN
  rw [HA.out] at hcon
  have HC := Lib.hid hcon
  clear hr hcon
  go_enter Try.func79, Try.ntmps79
  go_wp2_with fail
  refine HC.out.mono ?_
  rintro e w2 ⟨v2, rfl, ho2, hb2⟩
  go_wp2_with fail
  go_ret
  exact ⟨_, rfl, ho2, hb2⟩
/-- The longest run. -/
def maxL (l : List E) : Int := l.foldl (fun m x => max m x.n) 0
theorem maxL_take (l : List E) (k : Nat) (h : k < l.length) : maxL (l.take (k + 1)) = max (maxL (l.take k)) l[k].n := by
  rw [List.take_succ_eq_append_getElem h]
  simp only [maxL, List.foldl_append, List.foldl_cons, List.foldl_nil]
theorem maxL_bd (l : List E) (h : ∀ x ∈ l, x.n ≤ 65536) (k : Nat) : k ≤ l.length → 0 ≤ maxL (l.take k) ∧ maxL (l.take k) ≤ 65536 := by
  induction k with
  | zero => intro _; simp [maxL]
  | succ k ih =>
    intro hk
    have := ih (by omega)
    have h2 := h _ (List.getElem_mem (show k < l.length by omega))
    rw [maxL_take l k (by omega)]
    omega
set_option maxRecDepth 100000 in
set_option maxHeartbeats 1000000 in
theorem qlargest_any (M : List Bool) (a : Option Addr) (c : Nat) (w : World) (hr : RdM w a M) (hN : M.length ≤ 65536) :
    Calls Try.prog 78 #[.slice a M.length c] w fun e w' => e = .returned (.int .i64 (maxL (freeR M))) ∧ Below w.heap.size w w' := by
  have HR := Lib.hid hr
  have hC := freeR_canon M
  have hS := canon_short hC
  have HM : Hid (∀ x ∈ freeR M, x.n ≤ 65536) := Lib.hid fun x hx => by
    have := (okB_iff x).1 (hC.1 x hx).2
    omega
  have HB := Lib.hid (maxL_bd _ HM.out)
  clear hr hC
  go_enter Try.func78, Try.ntmps78
  go_wp2_with fail
  refine (qruns_any M a c w HR.out hN).mono ?_
  rintro e w2 ⟨v2, rfl, ho2, hb2⟩
  obtain ⟨a2, c2, rfl, hr2⟩ := ho2.rd (by omega)
  clear ho2
  generalize hFR : freeR M = l at *
  have HFR := Lib.hid hFR
  clear hFR
  go_wp2_with fail
  go_loopw [3, 5] (fun v t wr => ∃ k : Nat, k ≤ l.length ∧ t = .int .i64 k ∧ v = .int .i64 (maxL (l.take k)) ∧ Below w2.heap.size w2 wr) (fun _ t _ => l.length - (intOf t).toNat)
  case atStart => exact ⟨0, Nat.zero_le _, rfl, rfl, Below.refl _ _⟩
  case round =>
    obtain ⟨k, hk, rfl, rfl, hBk⟩ := hrel
    by_cases hlt : k < l.length
    · obtain ⟨b, o, rfl, hat⟩ := (hr2.keep hBk).at (by omega)
      obtain ⟨h1, h2, h3⟩ := hat k _ (List.getElem?_eq_getElem hlt)
      have HT := Lib.hid (maxL_take l k hlt)
      obtain ⟨m1, m2⟩ := HB.out k hk
      generalize l[k] = x at *
      generalize maxL (l.take k) = sm at *
      clear hat hr2
      go_wp2
      go_roundw
      case rel => exact ⟨k + 1, by omega, by go_num, by rw [HT.out]; congr 1; split <;> omega, hBk⟩
      case measure => simp [intOf]; omega
    · obtain rfl : k = l.length := by omega
      rw [List.take_length]
      have HQ := Lib.hid hb2
      clear hb2
      go_wp2
      go_ret
      exact ⟨by rw [HFR.out]; rfl, HQ.out.on hBk⟩
end Go.Proofs.Ytolhajkbamhdgaa
