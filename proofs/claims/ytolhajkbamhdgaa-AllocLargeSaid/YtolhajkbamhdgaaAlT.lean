/-
  The specification tegularef35: choose, Mark, Give, Take.
  Conditions: as each theorem says.
-/
import Derived.Test.YtolhajkbamhdgaaAlS
namespace Go.Proofs.Ytolhajkbamhdgaa
set_option linter.unusedSimpArgs false
set_option linter.unusedVariables false
open Go.RowKit

theorem some_le (M : List Bool) (a b n : Nat) : (someL M a b n).length ≤ 65536 := canon_short (runs_facts _).1
theorem some_bd (M : List Bool) (a b n : Nat) : ∀ x ∈ someL M a b n, 0 ≤ x.n ∧ x.n ≤ 65536 := fun x hx => by
  have := (okB_iff x).1 ((runs_facts (picks (firstF (fromF M a) n) b)).1.1 x hx).2
  omega
theorem own_one (W : World) (B : Nat) (hB : B ≤ W.heap.size) (n s : Int) : OwnE (W.alloc (.cells #[.int .i64 0, .int .i64 n, .int .i64 s] 41)) B (.slice (some ⟨W.heap.size, 0, none⟩) 1 1) [⟨0, n, s⟩] :=
  OwnE.lit W #[.int .i64 0, .int .i64 n, .int .i64 s] [⟨0, n, s⟩] rfl (by simp [maxLen]) B hB
set_option maxRecDepth 100000 in
set_option maxHeartbeats 4000000 in
theorem qchoose_any (M : List Bool) (n h : Nat) (a : Option Addr) (c : Nat) (w : World) (hr : RdM w a M) (hN : M.length ≤ 65536) (hn : n ≤ 65536) (hh : h ≤ M.length) :
    Calls Try.prog 76 #[.slice a M.length c, .int .i64 n, .int .i64 h] w fun e w' => ∃ v, e = .returned v ∧ OwnE w' w.heap.size v (takeL M n h) ∧ Below w.heap.size w w' := by
  by_cases h0 : n = 0
  · subst h0
    go_enter Try.func76, Try.ntmps76
    go_wp2_with fail
    go_ret
    exact ⟨_, rfl, by rw [takeL_zero]; exact OwnE.nil _ _, Below.refl _ _⟩
  have hn1 : 1 ≤ n := by omega
  have hnb : ((n : Int) == 0) = false := by simp; omega
  have hnb2 : decide (n = 0) = false := by simp; omega
  have HTB := Lib.hid (fun p => take_behind (M := M) hN (n := n) (h := h) (p := p) hn1)
  have HBN := Lib.hid (behind_none (M := M) hN (n := n) (h := h) hn1)
  have HTA := Lib.hid (fun p => take_any (M := M) hN (n := n) (h := h) (p := p) hn1)
  have HTE := Lib.hid (takeL_end (M := M) hN (n := n) (h := h) hn1 hh)
  go_enter Try.func76, Try.ntmps76
  go_wp2_with fail
  go_loopw [7] (fun t wr => ∃ p : Nat, h ≤ p ∧ p ≤ M.length ∧ t = .int .i64 p ∧ (∀ t, h ≤ t → t < p → roomB M t n = false) ∧ Below w.heap.size w wr) (fun t _ => M.length - (intOf t).toNat)
  case atStart => exact ⟨h, Nat.le_refl _, hh, rfl, fun i h1 h2 => absurd h1 (by omega), Below.refl _ _⟩
  case round =>
    obtain ⟨p, hp1, hp2, rfl, hall, hB⟩ := hrel
    have HA := Lib.hid hall
    have hrp := hr.keep hB
    clear hall
    by_cases hlp : p < M.length
    · cases hroom : roomB M p n
      · have HR := Lib.hid hroom
        clear hroom
        go_wp2_with fail
        refine (qroom_any M p n a c wr hrp hN (by omega) hn).mono ?_
        rintro e w2 ⟨rfl, hb2⟩
        rw [HR.out]
        go_wp2_with fail
        go_roundw
        case rel => exact ⟨p + 1, by omega, by omega, by go_num, fun q h1 h2 => (by
          by_cases he : q = p
          · subst he; exact HR.out
          · exact HA.out q h1 (by omega)), hB.on hb2⟩
        case measure => simp [intOf]; omega
      · have HR := Lib.hid hroom
        have HT := Lib.hid (HTB.out p hp1 hroom HA.out)
        clear hroom
        go_wp2_with fail
        refine (qroom_any M p n a c wr hrp hN (by omega) hn).mono ?_
        rintro e w2 ⟨rfl, hb2⟩
        rw [HR.out]
        go_wp2_with fail
        go_ret
        exact ⟨_, rfl, by rw [HT.out]; exact own_one w2 _ (hB.on hb2).size _ _, (hB.on hb2).onAlloc _⟩
    · have HN2 := Lib.hid (HBN.out (fun t h1 h2 => HA.out t h1 (by omega)))
      clear HTB HBN HA
      go_wp2_with fail
      obtain ⟨W0, rfl⟩ : ∃ W0 : World, W0 = wr := ⟨_, rfl⟩
      have hB0 := hB
      clear hB hrp hlp hp1 hp2
      go_loopw [8] (fun t wi => ∃ q : Nat, q ≤ M.length ∧ t = .int .i64 q ∧ (∀ t, t < q → roomB M t n = false) ∧ Below w.heap.size w wi) (fun t _ => M.length - (intOf t).toNat)
      case atStart => exact ⟨0, Nat.zero_le _, rfl, fun i h1 => absurd h1 (by omega), hB0⟩
      case round =>
        obtain ⟨q, hq, rfl, hall, hB⟩ := hrel
        have HA := Lib.hid hall
        have hrp := hr.keep hB
        clear hall
        by_cases hlp : q < M.length
        · cases hroom : roomB M q n
          · have HR := Lib.hid hroom
            clear hroom
            go_wp2_with fail
            refine (qroom_any M q n a c wr hrp hN (by omega) hn).mono ?_
            rintro e w2 ⟨rfl, hb2⟩
            rw [HR.out]
            go_wp2_with fail
            go_roundw
            case rel => exact ⟨q + 1, by omega, by go_num, fun i h2 => (by
              by_cases he : i = q
              · subst he; exact HR.out
              · exact HA.out i (by omega)), hB.on hb2⟩
            case measure => simp [intOf]; omega
          · have HR := Lib.hid hroom
            have HT := Lib.hid (HTA.out q HN2.out hroom HA.out)
            clear hroom
            go_wp2_with fail
            refine (qroom_any M q n a c wr hrp hN (by omega) hn).mono ?_
            rintro e w2 ⟨rfl, hb2⟩
            rw [HR.out]
            go_wp2_with fail
            go_ret
            exact ⟨_, rfl, by rw [HT.out]; exact own_one w2 _ (hB.on hb2).size _ _, (hB.on hb2).onAlloc _⟩
        · have HT := Lib.hid (HTE.out HN2.out (fun t h2 => HA.out t (by omega)))
          obtain ⟨i0, hi, hz0, hz1, hz2⟩ := info_parts infoE
          clear HTE HTA HA
          go_wp2_with fail
          refine (qsome_any M h M.length n a c wr hrp hN hh (Nat.le_refl _) hn).mono ?_
          rintro e w2 ⟨v2, rfl, ho2, hb2⟩
          have hl2 := some_le M h M.length n
          have hbd2 := Lib.hid (some_bd M h M.length n)
          obtain ⟨z1, z2⟩ : 0 ≤ lenL (someL M h M.length n) ∧ lenL (someL M h M.length n) ≤ n := by rw [lenL_some M h M.length n hN]; omega
          have HZ : Hid ((n : Int) - lenL (someL M h M.length n) = ((n - min n (area (fromF M h) M.length) : Nat) : Int)) := Lib.hid (by rw [lenL_some M h M.length n hN]; omega)
          have hle := some_le M 0 h (n - min n (area (fromF M h) M.length))
          generalize someL M h M.length n = A at *
          generalize hnn : n - min n (area (fromF M h) M.length) = n2 at *
          have hn2 : n2 ≤ 65536 := by omega
          have HNN := Lib.hid hnn
          obtain ⟨a2, c2, rfl, hr2⟩ := ho2.rd (by omega)
          have HO2 := Lib.hid (ho2.mono hB.size)
          have HR2 := Lib.hid hr2
          have hB2 := hB.on hb2
          have HRM := Lib.hid (hr.keep hB2)
          have HSZ := hB2.size
          clear hnn ho2 hr2 hb2 hrp hr
          have HZ1 := Lib.hid (rfl : lenL A = lenL A)
          generalize hz : lenL A = z at z1 z2 HZ
          have HZZ := Lib.hid hz
          clear hz HZ1
          go_wp2_with fail
          have hsz := qsize_any A a2 c2 w2 HR2.out hbd2.out (by omega)
          rw [HZZ.out] at hsz
          refine hsz.mono ?_
          rintro e w3 ⟨rfl, hb3⟩
          have HRM3 := Lib.hid (HRM.out.keep hb3)
          have HO3 := Lib.hid (HO2.out.keep hb3)
          have hB3 := hB2.on hb3
          clear hsz hb3
          go_wp2_with fail
          have hcon := qsome_any M 0 h n2 a c w3 HRM3.out hN (Nat.zero_le _) hh hn2
          rw [← HZ.out] at hcon
          refine hcon.mono ?_
          rintro e w4 ⟨v4, rfl, ho4, hb4⟩
          generalize someL M 0 h n2 = A2 at *
          obtain ⟨a4, c4, rfl, hr4⟩ := ho4.rd (by omega)
          have HS := Lib.hid hr4.source
          have HO4 := Lib.hid (HO3.out.keep hb4)
          have hB4 := hB3.on hb4
          have hsz4 := hB4.size
          clear hcon hb4 ho4 hr4
          go_wp2_with (at_builtin; refine wpList_append_xs _ rfl _ _ 32 rfl w.heap.size 41 i0 (.agg #[.int .i64 0, .int .i64 0, .int .i64 0]) 3 24 Try.underlying32 hi hz0 hz1 hz2 rfl (by decide) _ _ _ rfl HO4.out _ _ _ _ rfl HS.out (by first | omega | (simp only [List.length_nil, List.length_append, List.length_cons]; omega)) (by first | (simp only [maxLen]; omega) | (simp only [maxLen, List.length_nil, List.length_append, List.length_cons]; omega)) (by first | omega | (simp only [World.size_alloc]; omega)) ?_; intro v1 w1 hown1 hgrow1 hwhere1)
          have HB6 := Lib.hid (hB4.onGrow hgrow1 (fun j hj => (HO4.out.lt j hj).1))
          have HO6 := Lib.hid (OwnE.append hown1 rfl)
          clear hown1 hgrow1 hwhere1
          go_wp2_with fail
          go_ret
          exact ⟨_, rfl, by rw [HT.out]; exact HO6.out, HB6.out⟩
theorem marked {M : List Bool} {l : List E} {u : Bool} {w w' : World} {e : Ending} (h : ChgPost M l u w e w') : (∃ v z, e = .returned (.tuple #[v, z])) := by
  obtain ⟨_, ⟨_, he⟩ | ⟨_, _, he⟩ | ⟨_, _, v, he, _⟩⟩ := h
  · exact ⟨_, _, he⟩
  · exact ⟨_, _, he⟩
  · exact ⟨_, _, he⟩
set_option maxRecDepth 100000 in
set_option maxHeartbeats 1000000 in
theorem qmark_any (M : List Bool) (l : List E) (a al : Option Addr) (c cl : Nat) (w : World) (hrM : RdM w a M) (hN : M.length ≤ 65536) (hr : Rd w al l) (hw : wfL l) :
    Calls Try.prog 77 #[.slice a M.length c, .slice al l.length cl] w (ChgPost M l true w) := by
  have HC := Lib.hid (qchange_any M l true a al c cl w hrM hN hr hw)
  clear hrM hr hw
  go_enter Try.func77, Try.ntmps77
  go_wp2_with fail
  refine HC.out.mono ?_
  rintro e w2 hp
  have HP := Lib.hid hp
  obtain ⟨v, z, rfl⟩ := marked hp
  clear hp
  go_wp2_with fail
  go_ret2
  exact HP.out
set_option maxRecDepth 100000 in
set_option maxHeartbeats 1000000 in
theorem qgive_any (M : List Bool) (l : List E) (a al : Option Addr) (c cl : Nat) (w : World) (hrM : RdM w a M) (hN : M.length ≤ 65536) (hr : Rd w al l) (hw : wfL l) :
    Calls Try.prog 82 #[.slice a M.length c, .slice al l.length cl] w (ChgPost M l false w) := by
  have HC := Lib.hid (qchange_any M l false a al c cl w hrM hN hr hw)
  clear hrM hr hw
  go_enter Try.func82, Try.ntmps82
  go_wp2_with fail
  refine HC.out.mono ?_
  rintro e w2 hp
  have HP := Lib.hid hp
  obtain ⟨v, z, rfl⟩ := marked hp
  clear hp
  go_wp2_with fail
  go_ret2
  exact HP.out
/-- Is the request well-formed? -/
def askB (N : Nat) (n h : Int) : Bool := decide (0 ≤ n ∧ 0 ≤ h ∧ h ≤ N)
theorem askB_iff (N : Nat) (n h : Int) : askB N n h = true ↔ 0 ≤ n ∧ 0 ≤ h ∧ h ≤ N := by simp [askB]
def QTook (M : List Bool) (n h : Nat) (w : World) (e : Ending) (w' : World) : Prop :=
  ∃ v1 v2, e = .returned (.tuple #[v1, v2, .int .i64 0]) ∧ OwnE w' w.heap.size v1 (takeL M n h) ∧ OwnM w' w.heap.size v2 (chgM M (takeL M n h) true) ∧ Below w.heap.size w w'
set_option maxRecDepth 100000 in
set_option maxHeartbeats 1000000 in
theorem qtake_arg (M : List Bool) (n h : Int) (a : Option Addr) (c : Nat) (w : World) (hr : RdM w a M) (hN : M.length ≤ 65536) (hbad : askB M.length n h = false) :
    Calls Try.prog 44 #[.slice a M.length c, .int .i64 n, .int .i64 h] w fun e w' => e = .returned (.tuple #[.slice none 0 0, .slice none 0 0, .int .i64 1]) ∧ Below w.heap.size w w' := by
  have hb : ¬ (0 ≤ n ∧ 0 ≤ h ∧ h ≤ M.length) := fun hc => by rw [(askB_iff _ _ _).2 hc] at hbad; cases hbad
  clear hbad hr
  by_cases h1 : n < 0
  · go_enter Try.func44, Try.ntmps44
    go_wp2_with fail
    go_ret3
    exact ⟨rfl, Below.refl _ _⟩
  · by_cases h2 : h < 0
    · go_enter Try.func44, Try.ntmps44
      go_wp2_with fail
      go_ret3
      exact ⟨rfl, Below.refl _ _⟩
    · have h3 : (M.length : Int) < h := by omega
      go_enter Try.func44, Try.ntmps44
      go_wp2_with fail
      go_ret3
      exact ⟨rfl, Below.refl _ _⟩
set_option maxRecDepth 100000 in
set_option maxHeartbeats 1000000 in
theorem qtake_space (M : List Bool) (n h : Int) (a : Option Addr) (c : Nat) (w : World) (hr : RdM w a M) (hN : M.length ≤ 65536) (hok : askB M.length n h = true) (hf : (area (freeF M) M.length : Int) < n) :
    Calls Try.prog 44 #[.slice a M.length c, .int .i64 n, .int .i64 h] w fun e w' => e = .returned (.tuple #[.slice none 0 0, .slice none 0 0, .int .i64 11]) ∧ Below w.heap.size w w' := by
  obtain ⟨h1, h2, h3⟩ := (askB_iff _ _ _).1 hok
  have HR := Lib.hid hr
  clear hok hr
  generalize hz : area (freeF M) M.length = z at *
  have HZ := Lib.hid hz
  clear hz
  go_enter Try.func44, Try.ntmps44
  go_wp2_with fail
  have hcon := qfree_any M a c w HR.out hN
  rw [HZ.out] at hcon
  refine hcon.mono ?_
  rintro e w2 ⟨rfl, hb2⟩
  clear hcon
  go_wp2_with fail
  go_ret3
  exact ⟨rfl, hb2⟩
theorem takeL_wf {M : List Bool} (hN : M.length ≤ 65536) {n h : Nat} (hf : n ≤ area (freeF M) M.length) : wfL (takeL M n h) ∧ (takeL M n h).length ≤ 131072 := by
  have hp := (taken_is hN (n := n) (h := h) hf).perm
  have hl := (taken_is hN (n := n) (h := h) hf).len
  have key : ∀ l : List E, permB M.length l = true → (l.length : Int) ≤ lenL l := fun l => by
    induction l with
    | nil => intro _; simp [lenL]
    | cons x r ih =>
      intro h
      have h1 := (permB_iff _ _).1 h x (by simp)
      have h2 := ih ((permB_iff _ _).2 fun y hy => (permB_iff _ _).1 h y (by simp [hy]))
      rw [lenL_cons, List.length_cons]
      omega
  have := key _ hp
  have ha := area_le (freeF M) M.length
  refine ⟨fun x hx => ?_, by omega⟩
  have hx' := (permB_iff _ _).1 hp x hx
  have h0 : x.a = 0 := by
    unfold takeL at hx
    split at hx
    · simp at hx
    · split at hx
      · simp at hx; rw [hx]
      · split at hx
        · simp at hx; rw [hx]
        · unfold piecesL at hx
          rcases List.mem_append.1 hx with h1 | h1
          · exact ((low_is _ n (from_free M hN h).1).1.1 x h1).1
          · rw [pieces_rest M hN] at h1
            exact ((low_is _ _ (before_free M hN h).1).1.1 x h1).1
  exact ⟨by omega, by omega, by omega⟩
set_option maxRecDepth 100000 in
set_option maxHeartbeats 2000000 in
theorem qtake_yes (M : List Bool) (n h : Nat) (a : Option Addr) (c : Nat) (w : World) (hr : RdM w a M) (hN : M.length ≤ 65536) (hok : h ≤ M.length) (hf : n ≤ area (freeF M) M.length) :
    Calls Try.prog 44 #[.slice a M.length c, .int .i64 n, .int .i64 h] w (QTook M n h w) := by
  have HR := Lib.hid hr
  have hn : n ≤ 65536 := by have := area_le (freeF M) M.length; omega
  have HT := Lib.hid (taken_is hN (n := n) (h := h) hf)
  obtain ⟨hw, hlen⟩ := takeL_wf hN (n := n) (h := h) hf
  have HW := Lib.hid hw
  clear hr hw
  generalize hz : area (freeF M) M.length = z at *
  have HZ := Lib.hid hz
  clear hz
  generalize hl : takeL M n h = l at *
  have HL := Lib.hid hl
  clear hl
  go_enter Try.func44, Try.ntmps44
  go_wp2_with fail
  have hcon := qfree_any M a c w HR.out hN
  rw [HZ.out] at hcon
  refine hcon.mono ?_
  rintro e w2 ⟨rfl, hb2⟩
  have HR2 := Lib.hid (HR.out.keep hb2)
  clear hcon
  go_wp2_with fail
  have hcon := qchoose_any M n h a c w2 HR2.out hN hn hok
  rw [HL.out] at hcon
  refine hcon.mono ?_
  rintro e w3 ⟨v3, rfl, ho3, hb3⟩
  have HR3 := Lib.hid (HR2.out.keep hb3)
  obtain ⟨a3, c3, rfl, hr3⟩ := ho3.rd (by omega)
  have HO3 := Lib.hid (ho3.mono hb2.size)
  have HRL := Lib.hid hr3
  have hB3 := hb2.on hb3
  clear hcon ho3 hr3 hb3
  go_wp2_with fail
  refine (qmark_any M l a a3 c c3 _ HR3.out hN HRL.out HW.out).mono ?_
  rintro e w4 hp
  obtain ⟨hb4, ⟨h1, _⟩ | ⟨_, h1, _⟩ | ⟨_, _, v4, rfl, ho4⟩⟩ := hp
  · exact absurd HT.out.range (by rw [h1]; simp)
  · exact absurd HT.out.st h1
  · have HO4 := Lib.hid (ho4.mono hB3.size)
    have HO5 := Lib.hid (HO3.out.keep hb4)
    have hB4 := hB3.on hb4
    clear ho4 hb4
    go_wp2_with fail
    go_ret3
    refine ⟨_, _, rfl, ?_, ?_, hB4⟩
    · rw [HL.out]; exact HO5.out
    · rw [HL.out]; exact HO4.out
end Go.Proofs.Ytolhajkbamhdgaa
