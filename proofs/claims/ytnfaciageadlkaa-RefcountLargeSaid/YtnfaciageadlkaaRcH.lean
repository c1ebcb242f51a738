/-
  package refcount: Zero and Drop.
  Conditions: as each theorem says.
-/
import Derived.Test.YtnfaciageadlkaaGF
import Derived.Test.YtnfaciageadlkaaRuM
import Derived.Deep.RegionHeld3
namespace Go.Proofs.Ytnfaciageadlkaa
set_option linter.unusedSimpArgs false
set_option linter.unusedVariables false
set_option maxRecDepth 100000
open Go.RowKit


set_option maxRecDepth 100000 in
set_option maxHeartbeats 1000000 in
theorem drop_no (C : List Int) (l : List E) (a al : Option Addr) (c cl : Nat) (w : World) (hC : C.length ≤ 65536) (hr : Rd w al l) (hw : wfL l) (hp : permB C.length l = false) :
    Calls Try.prog 10 #[.agg #[.slice a C.length c], .slice al l.length cl] w fun e w' => e = .returned (.tuple #[.agg #[.slice none 0 0], .slice none 0 0, .int .i64 2]) ∧ Below w.heap.size w w' := by
  have HP := Lib.hid hp
  clear hp
  go_enter Try.func10, Try.ntmps10
  go_wp2_with fail
  refine (permitted_is C l a al c cl _ hC (hr.keep ?_) hw false HP.out).mono ?_
  · (repeat (first | exact Below.refl _ _ | assumption | refine Below.onNext ?_ _ | refine Below.onAlloc ?_ _ | refine Below.setCell ?_ (by simp) _ | refine Below.drew ?_))
  rintro e w1 ⟨rfl, hb1⟩
  have hc := hb1.keep (a := ⟨w.heap.size + 1, 0, none⟩) (by simp; rfl)
  have hf := hb1.keepF (a := ⟨w.heap.size + 1, 0, none⟩) (by simp; rfl) (b := false) (by simp)
  have hB1 : Below w.heap.size w w1 := (((Below.refl w.heap.size w).onAlloc _).onAlloc _).on hb1
  clear hb1
  go_wp2_with fail
  refine bodyPost_ret (v := .tuple #[.agg #[.slice none 0 0], .slice none 0 0, .int .i64 2]) ?_ rfl ⟨rfl, ?_⟩
  · simp [results, Try.results10, go_sem, hc, hf]
  · exact hB1.setCell (by simp) _

set_option maxRecDepth 100000 in
set_option maxHeartbeats 2000000 in
theorem drop_state (C : List Int) (l : List E) (a al : Option Addr) (c cl : Nat) (w : World) (hrC : RdI w a C) (hr : Rd w al l) (hw : wfL l) (hp : permB C.length l = true) (hR : inR 0 1000000000 C) (hl : l.length ≤ 10000) (hn : negB (chgL C l (-1)) = true) :
    Calls Try.prog 10 #[.agg #[.slice a C.length c], .slice al l.length cl] w fun e w' => e = .returned (.tuple #[.agg #[.slice none 0 0], .slice none 0 0, .int .i64 8]) ∧ Below w.heap.size w w' := by
  have hC := hrC.1
  have HP := Lib.hid hp
  have HN := Lib.hid hn
  clear hp hn
  go_enter Try.func10, Try.ntmps10
  go_wp2_with fail
  refine (permitted_is C l a al c cl _ hC (hr.keep ?_) hw true HP.out).mono ?_
  · (repeat (first | exact Below.refl _ _ | assumption | refine Below.onNext ?_ _ | refine Below.onAlloc ?_ _ | refine Below.setCell ?_ (by simp) _ | refine Below.drew ?_))
  rintro e w1 ⟨rfl, hb1⟩
  have hc0 := hb1.keep (a := ⟨w.heap.size, 0, none⟩) (by simp; rfl)
  have hc1 := hb1.keep (a := ⟨w.heap.size + 1, 0, none⟩) (by simp; rfl)
  have hf1 := hb1.keepF (a := ⟨w.heap.size + 1, 0, none⟩) (by simp; rfl) (b := false) (by simp)
  have hB1 : Below w.heap.size w w1 := (((Below.refl w.heap.size w).onAlloc _).onAlloc _).on hb1
  have hz1 := hb1.size
  simp only [World.size_alloc] at hz1
  clear hb1
  go_wp2_with fail
  refine (changed_any C l (-1) a al c cl _ (hrC.keep hB1) (hr.keep hB1) HP.out (by omega) (inR_mono hR (by omega) (by omega)) (by omega)).mono ?_
  rintro e w2 ⟨v, rfl, ho, hb2⟩
  have hc2 := hb2.keep hc1
  have hf2 := hb2.keepF hc1 hf1
  have hRlt := World.block_lt_of_cell? w2 _ hc2
  simp only at hRlt
  have hB2 := hB1.on hb2
  replace ho := ho.mono (B' := w.heap.size + 1 + 1) hz1
  have HL := Lib.hid (chgL_length C l (-1))
  obtain ⟨a2, c2, rfl, hrD⟩ := ho.rd (by rw [HL.out]; exact hC)
  have HO := Lib.hid ho
  have hrl := hr.keep hB2
  have HDC : Hid (∃ D, D = chgL C l (-1)) := Lib.hid ⟨_, rfl⟩
  clear ho hrC hr hb2 hB1 hc1 hf1 hc0 hz1
  rw [HL.out] at HO ⊢
  go_wp2_with fail
  have hrD2 := hrD.keep ((Below.refl w2.heap.size w2).onAlloc (.cells #[.slice a2 C.length c2] 27))
  have hcon := contains_neg (chgL C l (-1)) a2 c2 _ hrD2 true HN.out
  rw [HL.out] at hcon
  refine hcon.mono ?_
  rintro e w3 ⟨rfl, hb3⟩
  have hct := hb3.keep (a := ⟨w2.heap.size, 0, none⟩) (by simp; rfl)
  have hbb := ((Below.refl w2.heap.size w2).onAlloc (.cells #[.slice a2 C.length c2] 27)).on hb3
  have hc3 := hbb.keep hc2
  have hf3 := hbb.keepF hc2 hf2
  have hB3 := hB2.on hbb
  clear hcon hrD2 hc2 hf2 hb3
  go_wp2_with fail
  refine bodyPost_ret (v := .tuple #[.agg #[.slice none 0 0], .slice none 0 0, .int .i64 8]) ?_ rfl ⟨rfl, ?_⟩
  · simp [results, Try.results10, go_sem, hc3, hf3]
  · exact hB3.setCell (by simp) _

theorem freedX_step (D : List Int) (s p : Nat) (h : s ≤ p) : (zeroB D p = true → freedX D s (p + 1 - s) = freedX D s (p - s) ++ [single p]) ∧ (zeroB D p = false → freedX D s (p + 1 - s) = freedX D s (p - s)) := by
  rw [show p + 1 - s = (p - s) + 1 by omega]
  have e : s + (p - s) = p := by omega
  constructor
  · intro hz
    have := freedX_yes D s (p - s) (by rw [e]; exact hz)
    rw [e] at this
    exact this
  · intro hz
    exact freedX_no D s (p - s) (by rw [e]; exact hz)
theorem permB_takes (N : Nat) (l : List E) (k : Nat) (h : permB N l = true) : permB N (l.take k) = true := (permB_iff _ _).2 fun x hx => (permB_iff _ _).1 h x (List.mem_of_mem_take hx)
def DropYes (D : List Int) (F : List E) (w : World) (e : Ending) (w' : World) : Prop :=
  ∃ v f, e = .returned (.tuple #[.agg #[v], f, .int .i64 0]) ∧ OwnI w' w.heap.size v D ∧ OwnE w' w.heap.size f F ∧ Below w.heap.size w w'
set_option maxRecDepth 100000 in
set_option maxHeartbeats 4000000 in
theorem drop_yes (C : List Int) (l : List E) (a al : Option Addr) (c cl : Nat) (w : World) (hrC : RdI w a C) (hr : Rd w al l) (hw : wfL l) (hp : permB C.length l = true) (hR : inR 0 1000000000 C) (hl : l.length ≤ 10000) (hn : negB (chgL C l (-1)) = false) :
    Calls Try.prog 10 #[.agg #[.slice a C.length c], .slice al l.length cl] w (DropYes (chgL C l (-1)) (runsL (freedL (chgL C l (-1)) l)) w) := by
  obtain ⟨i0, hi, hz0, hz1, hz2⟩ := info_parts infoE
  have hC := hrC.1
  have HP := Lib.hid hp
  have HN := Lib.hid hn
  clear hp hn
  go_enter Try.func10, Try.ntmps10
  go_wp2_with fail
  refine (permitted_is C l a al c cl _ hC (hr.keep ?_) hw true HP.out).mono ?_
  · (repeat (first | exact Below.refl _ _ | assumption | refine Below.onNext ?_ _ | refine Below.onAlloc ?_ _ | refine Below.setCell ?_ (by simp) _ | refine Below.drew ?_))
  rintro e w1 ⟨rfl, hb1⟩
  have hc0 := hb1.keep (a := ⟨w.heap.size, 0, none⟩) (by simp; rfl)
  have hc1 := hb1.keep (a := ⟨w.heap.size + 1, 0, none⟩) (by simp; rfl)
  have hf1 := hb1.keepF (a := ⟨w.heap.size + 1, 0, none⟩) (by simp; rfl) (b := false) (by simp)
  have hB1 : Below w.heap.size w w1 := (((Below.refl w.heap.size w).onAlloc _).onAlloc _).on hb1
  have hz1 := hb1.size
  simp only [World.size_alloc] at hz1
  clear hb1
  go_wp2_with fail
  refine (changed_any C l (-1) a al c cl _ (hrC.keep hB1) (hr.keep hB1) HP.out (by omega) (inR_mono hR (by omega) (by omega)) (by omega)).mono ?_
  rintro e w2 ⟨v, rfl, ho, hb2⟩
  have hc2 := hb2.keep hc1
  have hf2 := hb2.keepF hc1 hf1
  have hRlt := World.block_lt_of_cell? w2 _ hc2
  simp only at hRlt
  have hB2 := hB1.on hb2
  replace ho := ho.mono (B' := w.heap.size + 1 + 1) hz1
  have HL := Lib.hid (chgL_length C l (-1))
  obtain ⟨a2, c2, rfl, hrD⟩ := ho.rd (by rw [HL.out]; exact hC)
  have HO := Lib.hid ho
  have hrl := hr.keep hB2
  have HDC : Hid (∃ D, D = chgL C l (-1)) := Lib.hid ⟨_, rfl⟩
  clear ho hrC hr hb2 hB1 hc1 hf1 hc0 hz1
  rw [HL.out] at HO ⊢
  go_wp2_with fail
  have hrD2 := hrD.keep ((Below.refl w2.heap.size w2).onAlloc (.cells #[.slice a2 C.length c2] 27))
  have hcon := contains_neg (chgL C l (-1)) a2 c2 _ hrD2 false HN.out
  rw [HL.out] at hcon
  refine hcon.mono ?_
  rintro e w3 ⟨rfl, hb3⟩
  have hct := hb3.keep (a := ⟨w2.heap.size, 0, none⟩) (by simp; rfl)
  have hbb := ((Below.refl w2.heap.size w2).onAlloc (.cells #[.slice a2 C.length c2] 27)).on hb3
  have hc3 := hbb.keep hc2
  have hf3 := hbb.keepF hc2 hf2
  have hB3 := hB2.on hbb
  clear hcon hrD2 hc2 hf2 hb3
  have HO3 := Lib.hid (HO.out.keep hbb)
  have hrl3 := hrl.keep hbb
  have hrD3 := hrD.keep hbb
  have HR2 := Lib.hid hR
  have HFL := Lib.hid (fun k => freedL_length (chgL C l (-1)) C.length (l.take k) (permB_takes _ l k HP.out))
  have HFW := Lib.hid (freed_wf (chgL C l (-1)) l C.length hC HP.out)
  have ht3 := World.block_lt_of_cell? w3 _ hct
  simp only at ht3
  have hw3 := hB3.size
  generalize chgL C l (-1) = D at *
  clear HO hbb hrl hrD hR HN HR2 HDC
  go_wp2_with fail
  go_loopw [8, 26] (fun v i wr => ∃ k : Nat, k ≤ l.length ∧ i = .int .i64 k ∧ OwnE wr w3.heap.size v (freedL D (l.take k)) ∧ Below w3.heap.size w3 wr) (fun _ i _ => l.length - (intOf i).toNat)
  case atStart => exact ⟨0, Nat.zero_le _, rfl, OwnE.nil _ _, Below.refl _ _⟩
  case round =>
    obtain ⟨k, hk, rfl, ho, hB⟩ := hrel
    by_cases hlt : k < l.length
    · obtain ⟨b, o, rfl, hat⟩ := (hrl3.keep hB).at (by omega)
      obtain ⟨h1, h2, h3⟩ := hat k _ (List.getElem?_eq_getElem hlt)
      obtain ⟨p1, p2, p3⟩ := (permB_iff _ _).1 HP.out _ (List.getElem_mem hlt)
      have HT := Lib.hid (freedL_take D l k hlt)
      have hfl := HFL.out k
      have hfl2 : (freedL D (l.take k)).length ≤ 655360000 := by
        have h4 := List.length_take_le k l
        have := Nat.mul_le_mul hC (Nat.le_trans h4 (Nat.le_trans (Nat.le_of_lt hlt) hl))
        omega
      generalize l[k] = x at *
      generalize freedL D (l.take k) = F at *
      obtain ⟨xa, xn, xs⟩ := x
      simp only at h1 h2 h3 p1 p2 p3 HT
      obtain ⟨s, rfl⟩ := Int.eq_ofNat_of_zero_le p2
      obtain ⟨n, rfl⟩ := Int.eq_ofNat_of_zero_le (show 0 ≤ xn by omega)
      simp only [Int.toNat_natCast] at HT
      have HOF := Lib.hid ho
      clear hat hrl3 ho hfl
      go_wp2_with fail
      have hx1 : (wr.alloc (.cells #[.int .i64 xa, .int .i64 n, .int .i64 s] 32)).cell? ⟨wr.heap.size, 1, none⟩ = some (.int .i64 n) := by simp
      have hx2 : (wr.alloc (.cells #[.int .i64 xa, .int .i64 n, .int .i64 s] 32)).cell? ⟨wr.heap.size, 2, none⟩ = some (.int .i64 s) := by simp
      have HOW := Lib.hid (HOF.out.keep ((Below.refl _ _).onAlloc (.cells #[.int .i64 xa, .int .i64 n, .int .i64 s] 32)))
      have HBW := Lib.hid (hB.onAlloc (.cells #[.int .i64 xa, .int .i64 n, .int .i64 s] 32))
      have hne := fun e => Nat.lt_irrefl _ (HOF.out.lt wr.heap.size e).2
      have hXge := hB.size
      generalize wr.alloc (.cells #[.int .i64 xa, .int .i64 n, .int .i64 s] 32) = W0 at *
      generalize wr.heap.size = X at *
      have HNE := Lib.hid hne
      clear HOF hB hne
      go_loopw [8, 11] (fun v t wi => ∃ p : Nat, s ≤ p ∧ p ≤ s + n ∧ t = .int .i64 p ∧ OwnE wi w3.heap.size v (F ++ freedX D s (p - s)) ∧ wi.cell? ⟨X, 1, none⟩ = some (.int .i64 n) ∧ wi.cell? ⟨X, 2, none⟩ = some (.int .i64 s) ∧ v.ownBlock ≠ some X ∧ Below w3.heap.size w3 wi) (fun _ t _ => s + n - (intOf t).toNat)
      case atStart => exact ⟨s, Nat.le_refl _, by omega, rfl, by rw [Nat.sub_self, freedX_zero, List.append_nil]; exact HOW.out, hx1, hx2, HNE.out, HBW.out⟩
      case round =>
        clear hx1 hx2
        obtain ⟨p, hp1, hp2, rfl, hoi, hx1, hx2, hne, hBi⟩ := hrel
        by_cases hlp : p < s + n
        · have hpC : p < C.length := by omega
          have hpD : p < D.length := by rw [HL.out]; exact hpC
          have ht4 := hBi.keep hct
          obtain ⟨b2, o2, he2, hat2⟩ := (hrD3.keep hBi).at (by omega)
          have h4 := hat2 p _ (getD_some D p hpD)
          have hzb : zeroB D p = (D.getD p 0 == 0) := by unfold zeroB; rw [Bool.eq_iff_iff]; simp
          have HST := Lib.hid (freedX_step D s p hp1)
          have hfx := freedX_length D s (p - s)
          have HOI := Lib.hid hoi
          have HNX := Lib.hid hne
          have hszi := hBi.size
          have hXl := World.block_lt_of_cell? _ _ hx1
          simp only at hXl
          cases hy : (D.getD p 0 == 0)
          · have HS2 := Lib.hid (HST.out.2 (hzb.trans hy))
            generalize D.getD p 0 = y at *
            subst he2
            clear hoi hne hat2 hzb HST hrD3
            go_wp2
            go_roundw
            case rel => exact ⟨p + 1, by omega, by omega, by go_num, by rw [HS2.out]; exact HOI.out, hx1, hx2, HNX.out, hBi⟩
            case measure => simp [intOf]; omega
          · have HS2 := Lib.hid (HST.out.1 (hzb.trans hy))
            generalize D.getD p 0 = y at *
            subst he2
            have hFl : (F ++ freedX D s (p - s)).length ≤ 655425536 := by rw [List.length_append]; omega
            generalize hR : F ++ freedX D s (p - s) = R at *
            have HR := Lib.hid hR
            clear hoi hne hat2 hzb HST hrD3 hR
            go_wp2_with (at_builtin; refine wpList_append_x _ rfl _ _ 34 rfl w3.heap.size 32 i0 (.agg #[.int .i64 0, .int .i64 0, .int .i64 0]) 3 24 Try.underlying34 hi hz0 hz1 hz2 rfl (by decide) _ _ _ rfl (World.ownsRow.alloc HOI.out _) ⟨wr.heap.size, 0, none⟩ 1 1 (E.cells (single p)) rfl rfl (newE _ _ (by simp) _ _) (cellsE_one _) (by first | omega | (simp only [List.length_nil, List.length_append, List.length_cons]; omega)) (by first | (simp only [maxLen]; omega) | (simp only [maxLen, List.length_nil, List.length_append, List.length_cons]; omega)) (by simp only [World.size_alloc]; omega) ?_; intro v1 w1 hown1 hgrow1 hwhere1)
            have hrow : ∀ j, u8.ownBlock = some j → w3.heap.size ≤ j := fun j hj => (HOI.out.lt j hj).1
            have hB4 := Lib.hid ((hBi.onAlloc (.cells #[.int .i64 0, .int .i64 1, .int .i64 p] 32)).onGrow hgrow1 hrow)
            have HO4 := Lib.hid (OwnE.snoc hown1 (by simp))
            have hx3 := hgrow1.cell (((Below.refl _ _).onAlloc (.cells #[.int .i64 0, .int .i64 1, .int .i64 p] 32)).keep hx1) (fun e => HNX.out e.symm)
            have hx4 := hgrow1.cell (((Below.refl _ _).onAlloc (.cells #[.int .i64 0, .int .i64 1, .int .i64 p] 32)).keep hx2) (fun e => HNX.out e.symm)
            have HN4 : Hid (v1.ownBlock ≠ some X) := Lib.hid (by
              rcases hwhere1 with e | e
              · rw [e]; exact HNX.out
              · rw [e]
                simp only [World.size_alloc, ne_eq, Option.some.injEq]
                omega)
            clear hown1 hgrow1 hwhere1 hx1 hx2
            go_roundw
            case rel => exact ⟨p + 1, by omega, by omega, by go_num, by rw [HS2.out, ← List.append_assoc, HR.out]; exact HO4.out, hx3, hx4, HN4.out, hB4.out⟩
            case measure => simp [intOf]; omega
        · obtain rfl : p = s + n := by omega
          rw [show s + n - s = n by omega] at hoi
          have HOI := Lib.hid hoi
          clear hoi
          go_wp2_with fail
          go_roundw
          case rel => exact ⟨k + 1, by omega, by go_num, by rw [HT.out]; exact HOI.out, hBi⟩
          case measure => simp [intOf]; omega
    · obtain rfl : k = l.length := by omega
      rw [List.take_length] at ho
      have hfl := HFL.out l.length
      rw [List.take_length] at hfl
      have hfl2 : (freedL D l).length ≤ 1000000000 := by
        have := Nat.mul_le_mul hC hl
        omega
      obtain ⟨a5, c5, rfl, hr5⟩ := ho.rd (by omega)
      have hct5 := hB.keep hct
      have hc5 := hB.keep hc3
      have hf5 := hB.keepF hc3 hf3
      have hB5 := hB3.on hB
      have HO5 := Lib.hid (HO3.out.keep hB)
      generalize hFF : freedL D l = F at *
      have HF := Lib.hid hFF
      clear ho HFL hFF
      go_wp2_with fail
      have hct6 : wr.drew.cell? ⟨w2.heap.size, 0, none⟩ = some (.slice a2 C.length c2) := hct5
      have hc6 : wr.drew.cell? ⟨w.heap.size + 1, 0, none⟩ = some (.slice none 0 0) := hc5
      have hf6 : wr.drew.frozen? ⟨w.heap.size + 1, 0, none⟩ = false := hf5
      have hgr7 : ∀ w' : World, w'.cell? ⟨w2.heap.size, 0, none⟩ = some (.slice a2 C.length c2) → (w'.setCell ⟨w.heap.size + 1, 0, none⟩ (.slice a2 C.length c2)).cell? ⟨w2.heap.size, 0, none⟩ = some (.slice a2 C.length c2) :=
        fun w' h => (grown_setCell w' ⟨w.heap.size + 1, 0, none⟩ _).cell h (by simp; omega)
      have HG7 := Lib.hid hgr7
      clear hgr7
      go_region_held3 (fun w' => w'.cell? ⟨w2.heap.size, 0, none⟩ = some (.slice a2 C.length c2) ∧ Below w.heap.size w w')
        (first
          | exact ⟨hct5, hB5.drew⟩
          | exact ⟨hb7.keep hH.1, hH.2.on hb7⟩
          | exact ⟨HG7.out _ (hb7.keep hH.1), (hH.2.on hb7).setCell (by simp) _⟩)
        ((go_at_call 21; have hH := ‹_ ∧ Below w.heap.size w _›; refine (runs_any F _ _ _ (hr5.keep (Below.refl _ _).drew) HFW.out (by omega)).mono ?_; rintro e w7 ⟨v7, rfl, ho7, hb7⟩; have hc7 := hb7.keep hc6; have hf7 := hb7.keepF hc6 hf6))
      have hsz5 := hB5.size
      have hsz6 := hB.size
      have HO7 := Lib.hid (HO5.out.keep (Below.drew (Below.refl _ _) |>.on hb7))
      have HB7 := Lib.hid (hB5.drew.on hb7)
      have HF7 := Lib.hid ho7
      simp only [World.size_drew] at HF7
      have hRlt' := hB3.size
      clear ho7 hb7
      go_wp2_with fail
      refine bodyPost_ret (v := .tuple #[.agg #[.slice a2 C.length c2], v7, .int .i64 0]) ?_ rfl ⟨_, _, rfl, ?_, ?_, ?_⟩
      · simp [results, Try.results10, go_sem, hc7, hf7]
      · exact (HO7.out.away _ _ (fun h => by have := (HO7.out.lt _ h).1; simp at this; omega)).mono (by omega)
      · skip
        exact (HF7.out.away _ _ (fun h => by have := (HF7.out.lt _ h).1; simp at this; omega)).mono (by omega)
      · exact HB7.out.setCell (by simp) _
end Go.Proofs.Ytnfaciageadlkaa
