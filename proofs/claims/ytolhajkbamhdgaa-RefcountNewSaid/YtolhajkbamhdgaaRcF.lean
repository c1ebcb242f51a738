/-
  The specification tegularef34: Add, Of, Used, Total, runs, Zero, Drop.
  Conditions: as each theorem says.
-/
import Derived.Test.YtolhajkbamhdgaaRcD
import Derived.Test.YtolhajkbamhdgaaRcC
namespace Go.Proofs.Ytolhajkbamhdgaa
set_option linter.unusedSimpArgs false
set_option linter.unusedVariables false
open Go.RowKit

theorem rpermitted_is (N : Nat) (l : List E) (a al : Option Addr) (c cl : Nat) (w : World) (hN : N ≤ 65536) (hr : Rd w al l) (hw : wfL l) (r : Bool) (hp : permB N l = r) :
    Calls Try.prog 53 #[.slice a N c, .slice al l.length cl] w fun e w' => e = .returned (.bool r) ∧ Below w.heap.size w w' := by
  subst hp
  exact rpermitted_any N l a al c cl w hN hr hw
set_option maxRecDepth 100000 in
set_option maxHeartbeats 1000000 in
theorem radd_yes (C : List Int) (l : List E) (a al : Option Addr) (c cl : Nat) (w : World) (hrC : RdI w a C) (hr : Rd w al l) (hw : wfL l) (hp : permB C.length l = true) (hR : inR 0 1000000000 C) (hl : l.length ≤ 1000000000) :
    Calls Try.prog 20 #[.slice a C.length c, .slice al l.length cl] w fun e w' => ∃ v, e = .returned (.tuple #[v, .int .i64 0]) ∧ OwnI w' w.heap.size v (chgL C l 1) ∧ Below w.heap.size w w' := by
  have hC := hrC.1
  have HP := Lib.hid hp
  clear hp
  go_enter Try.func20, Try.ntmps20
  go_wp2_with fail
  refine (rpermitted_is C.length l a al c cl _ hC hr hw true HP.out).mono ?_
  rintro e w1 ⟨rfl, hb1⟩
  go_wp2_with fail
  refine (rchanged_any C l 1 a al c cl _ (hrC.keep hb1) (hr.keep hb1) HP.out (by omega) (inR_mono hR (by omega) (by omega)) hl).mono ?_
  rintro e w2 ⟨v, rfl, ho, hb2⟩
  go_wp2_with fail
  go_ret2
  exact ⟨_, rfl, ho.mono hb1.size, hb1.on hb2⟩
set_option maxRecDepth 100000 in
set_option maxHeartbeats 1000000 in
theorem radd_no (C : List Int) (l : List E) (a al : Option Addr) (c cl : Nat) (w : World) (hC : C.length ≤ 65536) (hr : Rd w al l) (hw : wfL l) (hp : permB C.length l = false) :
    Calls Try.prog 20 #[.slice a C.length c, .slice al l.length cl] w fun e w' => e = .returned (.tuple #[.slice none 0 0, .int .i64 2]) ∧ Below w.heap.size w w' := by
  have HP := Lib.hid hp
  clear hp
  go_enter Try.func20, Try.ntmps20
  go_wp2_with fail
  refine (rpermitted_is C.length l a al c cl _ hC hr hw false HP.out).mono ?_
  rintro e w1 ⟨rfl, hb1⟩
  go_wp2_with fail
  go_ret2
  exact ⟨rfl, hb1⟩
set_option maxRecDepth 100000 in
set_option maxHeartbeats 1000000 in
theorem rof_any (C : List Int) (a : Option Addr) (c : Nat) (s : Int) (w : World) (hrC : RdI w a C) :
    Calls Try.prog 61 #[.slice a C.length c, .int .i64 s] w fun e w' => e = .returned (.int .i64 (ofC C s)) ∧ w = w' := by
  have hC := hrC.1
  by_cases hs : 0 ≤ s ∧ s < C.length
  · obtain ⟨h0, h1⟩ := hs
    have HF : Hid (ofC C s = C.getD s.toNat 0) := Lib.hid (if_pos ⟨h0, h1⟩)
    obtain ⟨n, rfl⟩ := Int.eq_ofNat_of_zero_le h0
    have hn : n < C.length := by omega
    obtain ⟨b, o, rfl, hat⟩ := hrC.at (by omega)
    have hc := hat n _ (getD_some C n hn)
    rw [Int.toNat_natCast] at HF
    generalize C.getD n 0 = x at *
    clear hat hrC
    go_enter Try.func61, Try.ntmps61
    go_wp2
    go_ret
    exact ⟨ret_int HF.out.symm, rfl⟩
  · have HF : Hid (ofC C s = 0) := Lib.hid (if_neg hs)
    by_cases h0 : s < 0
    all_goals
      go_enter Try.func61, Try.ntmps61
      go_wp2
      all_goals first | (exfalso; omega) | (go_ret; exact ⟨ret_int HF.out.symm, rfl⟩)
set_option maxRecDepth 100000 in
set_option maxHeartbeats 1000000 in
theorem rtotal_any (C : List Int) (a : Option Addr) (c : Nat) (w : World) (hrC : RdI w a C) (hR : inR 0 1000000000 C) :
    Calls Try.prog 59 #[.slice a C.length c] w fun e w' => e = .returned (.int .i64 (sumC C)) ∧ Below w.heap.size w w' := by
  have hC := hrC.1
  go_enter Try.func59, Try.ntmps59
  go_wp2_with fail
  go_loopw [3, 4] (fun r i wr => ∃ k : Nat, k ≤ C.length ∧ i = .int .i64 k ∧ r = .int .i64 (sumC (C.take k)) ∧ Below w.heap.size w wr) (fun _ i _ => C.length - (intOf i).toNat)
  case atStart => exact ⟨0, Nat.zero_le _, rfl, rfl, Below.refl _ _⟩
  case round =>
    obtain ⟨k, hk, rfl, rfl, hB⟩ := hrel
    by_cases hlt : k < C.length
    · obtain ⟨b, o, rfl, hat⟩ := (hrC.keep hB).at (by omega)
      have h1 := hat k _ (List.getElem?_eq_getElem hlt)
      have HT := Lib.hid (sumC_take C k hlt)
      obtain ⟨x1, x2⟩ := get_range hR hlt
      obtain ⟨s1, s2⟩ := sum_bd (take_range hR k)
      have hle : (C.take k).length ≤ 65536 := Nat.le_trans (List.length_take_le _ _) (by omega)
      generalize C[k] = x at *
      generalize sumC (C.take k) = sm at *
      clear hat hrC
      have hsm : sm ≤ 70000000000000 := by omega
      have hk0 : (0 : Int) ≤ k := by omega
      have hk1 : (k : Int) < C.length := by omega
      go_wp2
      go_roundw
      case rel => exact ⟨k + 1, by omega, by go_num, by rw [HT.out], by (repeat (first | exact Below.refl _ _ | assumption | refine Below.onNext ?_ _ | refine Below.onAlloc ?_ _ | refine Below.setCell ?_ (by simp) _ | refine Below.drew ?_))⟩
      case measure => simp [intOf]; omega
    · go_wp2
      go_ret
      exact ⟨ret_int (by rw [List.take_of_length_le (by omega)]), hB⟩
set_option maxRecDepth 100000 in
set_option maxHeartbeats 1000000 in
theorem rused_any (C : List Int) (a : Option Addr) (c : Nat) (w : World) (hrC : RdI w a C) (hR : inR 0 1000000000 C) :
    Calls Try.prog 58 #[.slice a C.length c] w fun e w' => e = .returned (.int .i64 (usedC C)) ∧ Below w.heap.size w w' := by
  have hC := hrC.1
  go_enter Try.func58, Try.ntmps58
  go_wp2_with fail
  go_loopw [3, 4] (fun r i wr => ∃ k : Nat, k ≤ C.length ∧ i = .int .i64 k ∧ r = .int .i64 (usedC (C.take k)) ∧ Below w.heap.size w wr) (fun _ i _ => C.length - (intOf i).toNat)
  case atStart => exact ⟨0, Nat.zero_le _, rfl, rfl, Below.refl _ _⟩
  case round =>
    obtain ⟨k, hk, rfl, rfl, hB⟩ := hrel
    by_cases hlt : k < C.length
    · obtain ⟨b, o, rfl, hat⟩ := (hrC.keep hB).at (by omega)
      have h1 := hat k _ (List.getElem?_eq_getElem hlt)
      have HT := Lib.hid (usedC_take C k hlt)
      obtain ⟨x1, x2⟩ := get_range hR hlt
      obtain ⟨s1, s2⟩ := used_bd (take_range hR k)
      have hle : (C.take k).length ≤ 65536 := Nat.le_trans (List.length_take_le _ _) (by omega)
      generalize C[k] = x at *
      generalize usedC (C.take k) = sm at *
      clear hat hrC
      have hsm : sm ≤ 65536 := by omega
      have hk0 : (0 : Int) ≤ k := by omega
      have hk1 : (k : Int) < C.length := by omega
      by_cases h0 : 0 < x
      · have hd : decide (0 < x) = true := decide_eq_true h0
        go_wp2
        go_roundw
        case rel => exact ⟨k + 1, by omega, by go_num, by rw [HT.out, Int.min_eq_right (by omega)], by (repeat (first | exact Below.refl _ _ | assumption | refine Below.onNext ?_ _ | refine Below.onAlloc ?_ _ | refine Below.setCell ?_ (by simp) _ | refine Below.drew ?_))⟩
        case measure => simp [intOf]; omega
      · have hd : decide (0 < x) = false := decide_eq_false h0
        go_wp2
        go_roundw
        case rel => exact ⟨k + 1, by omega, by go_num, by rw [HT.out, Int.min_eq_left (by omega), show x = 0 by omega]; go_num, by (repeat (first | exact Below.refl _ _ | assumption | refine Below.onNext ?_ _ | refine Below.onAlloc ?_ _ | refine Below.setCell ?_ (by simp) _ | refine Below.drew ?_))⟩
        case measure => simp [intOf]; omega
    · go_wp2
      go_ret
      exact ⟨ret_int (by rw [List.take_of_length_le (by omega)]), hB⟩

/-! ### Runs of marks -/
theorem wfE_single (k : Nat) (h : k ≤ 65536) : (single k).wf := by unfold single E.wf; refine ⟨?_, ?_, ?_⟩ <;> constructor <;> simp only <;> omega
set_option maxRecDepth 100000 in
set_option maxHeartbeats 2000000 in
theorem marked_any (M : List Bool) (a : Option Addr) (c : Nat) (w : World) (hrM : RdM w a M) :
    Calls Try.prog 83 #[.slice a M.length c] w fun e w' => ∃ v, e = .returned v ∧ OwnE w' w.heap.size v (runsL (picks (fun i => M.getD i false) M.length)) ∧ Below w.heap.size w w' := by
  have hM := hrM.1
  obtain ⟨i0, hi, hz0, hz1, hz2⟩ := info_parts infoE
  go_enter Try.func83, Try.ntmps83
  go_wp2_with fail
  go_loopw [3, 4] (fun v i wr => ∃ k : Nat, k ≤ M.length ∧ i = .int .i64 k ∧ OwnE wr w.heap.size v (picks (fun i => M.getD i false) k) ∧ Below w.heap.size w wr) (fun _ i _ => M.length - (intOf i).toNat)
  case atStart => exact ⟨0, Nat.zero_le _, rfl, OwnE.nil _ _, Below.refl _ _⟩
  case round =>
    obtain ⟨k, hk, rfl, ho, hB⟩ := hrel
    by_cases hlt : k < M.length
    · obtain ⟨b, o, rfl, hat⟩ := (hrM.keep hB).at (by omega)
      have h1 := hat k _ (getD_someM M k hlt)
      have hk0 : (0 : Int) ≤ k := by omega
      have hk1 : (k : Int) < M.length := by omega
      have hpl := picks_length (fun i => M.getD i false) k
      have hsz := hB.size
      cases hm : M.getD k false
      · rw [hm] at h1
        have HT := Lib.hid (picks_no (fun i => M.getD i false) k hm)
        have HO := Lib.hid ho
        clear hat hrM ho hm
        go_wp2
        go_roundw
        case rel => exact ⟨k + 1, by omega, by go_num, by rw [HT.out]; exact HO.out, hB⟩
        case measure => simp [intOf]; omega
      · rw [hm] at h1
        have HT := Lib.hid (picks_yes (fun i => M.getD i false) k hm)
        have HO := Lib.hid ho
        clear hat hrM ho hm
        generalize picks (fun i => M.getD i false) k = R at *
        go_wp2_with (at_builtin; refine wpList_append_x _ rfl _ _ 32 rfl w.heap.size 41 i0 (.agg #[.int .i64 0, .int .i64 0, .int .i64 0]) 3 24 Try.underlying32 hi hz0 hz1 hz2 rfl (by decide) _ _ _ rfl (World.ownsRow.alloc HO.out _) ⟨wr.heap.size, 0, none⟩ 1 1 (E.cells (single k)) rfl rfl (newE _ _ (by simp) _ _) (cellsE_one _) (by first | omega | (simp only [List.length_nil, List.length_append, List.length_cons]; omega)) (by first | (simp only [maxLen]; omega) | (simp only [maxLen, List.length_nil, List.length_append, List.length_cons]; omega)) (by simp only [World.size_alloc]; omega) ?_; intro v1 w1 hown1 hgrow1 hwhere1)
        have hB4 := Lib.hid ((hB.onAlloc (.cells #[.int .i64 0, .int .i64 1, .int .i64 k] 41)).onGrow hgrow1 fun j hj => (HO.out.lt j hj).1)
        have HO4 := Lib.hid (OwnE.snoc hown1 (by simp))
        clear hown1 hgrow1 hwhere1
        go_roundw
        case rel => exact ⟨k + 1, by omega, by go_num, by rw [HT.out]; exact HO4.out, hB4.out⟩
        case measure => simp [intOf]; omega
    · obtain rfl : k = M.length := by omega
      have hpl := picks_length (fun i => M.getD i false) M.length
      obtain ⟨a2, c2, rfl, hr2⟩ := ho.rd (by omega)
      have HW := Lib.hid (picks_wf (fun i => M.getD i false) M.length hM)
      generalize hRR : picks (fun i => M.getD i false) M.length = R at *
      have HQ := Lib.hid hRR
      clear ho hrM hRR
      go_wp2_with fail
      refine (rruns_any R _ _ _ hr2 HW.out).mono ?_
      rintro e w2 ⟨v, rfl, ho, hb2⟩
      have hsz := hB.size
      go_wp2_with fail
      go_ret
      exact ⟨_, rfl, by rw [HQ.out]; exact ho.mono hsz, hB.on hb2⟩

/-! ### Marks -/
/-- The marks of the first k of n slots. -/
def marks (f : Nat → Bool) (k n : Nat) : List Bool := (List.range n).map fun i => decide (i < k) && f i
theorem marks_length (f : Nat → Bool) (k n : Nat) : (marks f k n).length = n := by simp [marks]
theorem marks_zero (f : Nat → Bool) (n : Nat) : marks f 0 n = List.replicate n false := by
  apply List.ext_getElem
  · simp [marks]
  · intro i h1 h2
    simp [marks]
theorem marks_set (f : Nat → Bool) (k n : Nat) : (marks f k n).set k (f k) = marks f (k + 1) n := by
  apply List.ext_getElem
  · simp [marks]
  · intro i h1 h2
    simp only [marks, List.getElem_set, List.getElem_map, List.getElem_range]
    by_cases h : k = i
    · subst h; simp
    · rw [if_neg h]
      congr 1
      rw [Bool.eq_iff_iff]
      simp only [decide_eq_true_eq]
      omega
theorem marks_get (f : Nat → Bool) (n i : Nat) (h : i < n) : (marks f n n).getD i false = f i := by
  rw [List.getD_eq_getElem?_getD]
  simp [marks, h]
theorem marks_picks (f : Nat → Bool) (n : Nat) : picks (fun i => (marks f n n).getD i false) (marks f n n).length = picks f n := by
  rw [marks_length]
  exact picks_congr _ _ _ fun i hi => marks_get f n i hi

set_option maxRecDepth 100000 in
set_option maxHeartbeats 2000000 in
theorem rzero_any (C : List Int) (a : Option Addr) (c : Nat) (w : World) (hrC : RdI w a C) :
    Calls Try.prog 60 #[.slice a C.length c] w fun e w' => ∃ v, e = .returned v ∧ OwnE w' w.heap.size v (zeroL C) ∧ Below w.heap.size w w' := by
  have hC := hrC.1
  go_enter Try.func60, Try.ntmps60
  go_upto_region 2 with ((at_make; refine wpList_make_M _ rfl _ _ 66 rfl Try.underlying66 _ _ C.length rfl rfl (by omega) w.heap.size w.heap.size rfl (by omega) ?_; intro w1 ho1 hb1 hz1))
  rw [← marks_zero (zeroB C)] at ho1
  go_wp2_with fail
  go_loopw [4] (fun i wr => ∃ k : Nat, k ≤ C.length ∧ i = .int .i64 k ∧ OwnM wr w.heap.size (.slice (some ⟨w.heap.size, 0, none⟩) C.length C.length) (marks (zeroB C) k C.length) ∧ w1.grownBy wr (some w.heap.size)) (fun i _ => C.length - (intOf i).toNat)
  case atStart => exact ⟨0, Nat.zero_le _, rfl, ho1, World.grownBy.refl _ _⟩
  case round =>
    obtain ⟨k, hk, rfl, ho, hg⟩ := hrel
    have hB := hb1.onGrow hg (by intro j hj; simp at hj; omega)
    have HL := Lib.hid (marks_length (zeroB C) k C.length)
    by_cases hlt : k < C.length
    · obtain ⟨b, o, rfl, hat⟩ := (hrC.keep hB).at (by omega)
      have h1 := hat k _ (getD_some C k hlt)
      have hcell := ho.cells.1 k _ (getD_someM _ k (by rw [HL.out]; exact hlt))
      have hfree := ho.cells.2 k
      have HS := Lib.hid (marks_set (zeroB C) k C.length)
      have hk0 : (0 : Int) ≤ k := by omega
      have hk1 : (k : Int) < C.length := by omega
      obtain ⟨HO2, hg3⟩ := OwnM.set (by rw [HL.out]) ho k (zeroB C k)
      have HO2 := Lib.hid HO2
      rw [HS.out] at HO2
      have HG3 := Lib.hid (World.grownBy.next hg hg3)
      have hzb : zeroB C k = (C.getD k 0 == 0) := by unfold zeroB; rw [Bool.eq_iff_iff]; simp
      rw [hzb] at HO2 HG3
      generalize (marks (zeroB C) k C.length).getD k false = m0 at *
      generalize C.getD k 0 = x at *
      clear hat hrC ho hg hg3 ho1 hzb
      cases hx : (x == 0)
      all_goals
        rw [hx] at HO2 HG3
        go_wp2
        go_roundw
        case rel => exact ⟨k + 1, by omega, by go_num, HO2.out, HG3.out⟩
        case measure => simp [intOf]; omega
    · obtain rfl : k = C.length := by omega
      have HM := Lib.hid (marks_picks (zeroB C) C.length)
      obtain ⟨a2, c2, he, hr2⟩ := ho.rd (by rw [HL.out]; exact hC)
      injection he with he1 he2 he3
      subst he1
      clear he2 he3 c2 hrC ho ho1
      go_wp2_with fail
      have hcon := marked_any (marks (zeroB C) C.length C.length) (some ⟨w.heap.size, 0, none⟩) C.length _ hr2
      rw [HL.out] at hcon
      refine hcon.mono ?_
      rintro e w2 ⟨v, rfl, ho, hb2⟩
      have HO := Lib.hid ho
      clear ho hcon
      have hsz := hB.size
      go_wp2_with fail
      go_ret
      refine ⟨_, rfl, ?_, hB.on hb2⟩
      have := HO.out
      have hm := HM.out
      rw [HL.out] at hm
      rw [hm] at this
      exact this.mono hsz
end Go.Proofs.Ytolhajkbamhdgaa
