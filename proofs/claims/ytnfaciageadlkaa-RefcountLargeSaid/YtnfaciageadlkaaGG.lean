/-
  The specification tegularef34: New, permitted, changed, Add, Of, Used, Total.
  The specification tegularef34: Add, Of, Used, Total, runs, Zero, Drop.
  The specification tegularef34: Drop.
  refcount.Single.
  Conditions: as each theorem says.
-/
import Derived.Test.YtnfaciageadlkaaGF
import Derived.Test.YtnfaciageadlkaaGA
namespace Go.Proofs.Ytnfaciageadlkaa
set_option linter.unusedSimpArgs false
set_option linter.unusedVariables false
set_option maxRecDepth 100000
open Go.RowKit

def PermPost (N : Nat) (l : List E) (w : World) (e : Ending) (w' : World) : Prop := e = .returned (.bool (permB N l)) ∧ Below w.heap.size w w'
theorem permB_bad (N : Nat) (l : List E) (k : Nat) (h : k < l.length) (hx : permX N l[k] = false) : permB N l = false := by
  cases hp : permB N l
  · rfl
  · have := (permB_iff _ _).1 hp _ (List.getElem_mem h)
    simp [permX] at hx
    omega

end Go.Proofs.Ytnfaciageadlkaa

namespace Go.Proofs.Ytnfaciageadlkaa
set_option linter.unusedSimpArgs false
set_option linter.unusedVariables false
set_option maxRecDepth 100000
open Go.RowKit


/-! ### Runs of marks -/
theorem wfE_single (k : Nat) (h : k ≤ 65536) : (single k).wf := by unfold single E.wf; refine ⟨?_, ?_, ?_⟩ <;> constructor <;> simp only <;> omega

/-! ### Marks -/
/-- The marks of the first k of n slots. -/
def marks (f : Nat → Bool) (k n : Nat) : List Bool := (List.range n).map fun i => decide (i < k) && f i
theorem marks_length (f : Nat → Bool) (k n : Nat) : (marks f k n).length = n := by simp [marks]
theorem marks_zero (f : Nat → Bool) (n : Nat) : marks f 0 n = List.replicate n false := by
  apply List.ext_getElem
  · simp [marks]
  · intro i h1 h2
    simp [marks]
theorem marks_set (f : Nat → Bool) (k n : Nat) : (marks f k n).set k (f k) = marks f (k + 1) n := by
  apply List.ext_getElem
  · simp [marks]
  · intro i h1 h2
    simp only [marks, List.getElem_set, List.getElem_map, List.getElem_range]
    by_cases h : k = i
    · subst h; simp
    · rw [if_neg h]
      congr 1
      rw [Bool.eq_iff_iff]
      simp only [decide_eq_true_eq]
      omega
theorem marks_get (f : Nat → Bool) (n i : Nat) (h : i < n) : (marks f n n).getD i false = f i := by
  rw [List.getD_eq_getElem?_getD]
  simp [marks, h]
theorem marks_picks (f : Nat → Bool) (n : Nat) : picks (fun i => (marks f n n).getD i false) (marks f n n).length = picks f n := by
  rw [marks_length]
  exact picks_congr _ _ _ fun i hi => marks_get f n i hi

end Go.Proofs.Ytnfaciageadlkaa

namespace Go.Proofs.Ytnfaciageadlkaa
set_option linter.unusedSimpArgs false
set_option linter.unusedVariables false
set_option maxRecDepth 100000
open Go.RowKit

/-- What Drop of the specification returns for counts C that become D. -/
def RDropPost (C D : List Int) (w : World) (e : Ending) (w' : World) : Prop :=
  Below w.heap.size w w' ∧ ((negB D = true ∧ e = .returned (.tuple #[.slice none 0 0, .slice none 0 0, .int .i64 8])) ∨
    (negB D = false ∧ ∃ v f, e = .returned (.tuple #[v, f, .int .i64 0]) ∧ OwnI w' w.heap.size v D ∧ OwnE w' w.heap.size f (runsL (picks (freeB C D) C.length))))
end Go.Proofs.Ytnfaciageadlkaa

namespace Go.Proofs.Ytnfaciageadlkaa
set_option linter.unusedSimpArgs false
set_option linter.unusedVariables false
set_option maxRecDepth 100000
open Go.RowKit

set_option maxRecDepth 100000 in
set_option maxHeartbeats 8000000 in
theorem single_any (C : List Int) (l : List E) (a al : Option Addr) (c cl : Nat) (w : World) (hrC : RdI w a C) (hr : Rd w al l) (hw : wfL l) :
    Calls Try.prog 9 #[.agg #[.slice a C.length c], .slice al l.length cl] w fun e w' => e = .returned (.int .i64 (singleC C l)) ∧ Below w.heap.size w w' := by
  have hC := hrC.1
  have hlen := hr.1
  have HWF := Lib.hid hw
  clear hw
  go_enter Try.func9, Try.ntmps9
  go_upto_region 2 with ((at_make; refine wpList_make_M _ rfl _ _ 47 rfl Try.underlying47 _ _ C.length rfl rfl (by omega) w.heap.size (w.heap.size + 1) (by simp) (by omega) ?_; intro w1 ho1 hb1 hz1))
  have hc1 := hb1.keep (a := ⟨w.heap.size, 0, none⟩) (by simp; rfl)
  have hB1 := ((Below.refl w.heap.size w).onAlloc (.cells #[.slice a C.length c] 27)).on hb1
  rw [← mk_false] at ho1
  obtain ⟨g, hg⟩ : ∃ g, g = w.heap.size + 1 := ⟨_, rfl⟩
  rw [← hg] at ho1 ⊢
  have hgw : w.heap.size < g := by omega
  have HG := Lib.hid hg
  clear hb1 hg
  go_wp2_with fail
  go_loopw [6, 17] (fun nv i wr => ∃ k : Nat, k ≤ l.length ∧ i = .int .i64 k ∧ nv = .int .i64 (area (fun i => listB (l.take k) i && oneB C i) C.length) ∧ OwnM wr w.heap.size (.slice (some ⟨g, 0, none⟩) C.length C.length) (mk (listB (l.take k)) C.length) ∧ w1.grownBy wr (some g)) (fun _ i _ => l.length - (intOf i).toNat)
  case atStart => exact ⟨0, Nat.zero_le _, rfl, by rw [area_false]; rfl; intro i _; rfl, ho1, World.grownBy.refl _ _⟩
  case round =>
    obtain ⟨k, hk, rfl, rfl, ho, hgr⟩ := hrel
    have hB := hB1.onGrow hgr (by intro j hj; simp at hj; omega)
    have hcr := hgr.cell hc1 (by simp; omega)
    by_cases hlt : k < l.length
    · obtain ⟨b, o, rfl, hat⟩ := (hr.keep hB).at (by omega)
      obtain ⟨h1, h2, h3⟩ := hat k _ (List.getElem?_eq_getElem hlt)
      obtain ⟨⟨b1, b2⟩, ⟨b3, b4⟩, ⟨b5, b6⟩⟩ := HWF.out _ (List.getElem_mem hlt)
      have HLT := Lib.hid (listB_take l k hlt)
      generalize l[k] = x at *
      generalize hLL : listB (l.take k) = L at *
      have har := area_le (fun i => L i && oneB C i) C.length
      obtain ⟨T, hT⟩ : ∃ T : Int, T = if 1 ≤ x.n then min (C.length : Int) (x.s + x.n) else 0 := ⟨_, rfl⟩
      obtain ⟨s0, hs0⟩ : ∃ s0 : Nat, (s0 : Int) = max x.s 0 := ⟨(max x.s 0).toNat, by omega⟩
      have HTT := Lib.hid hT
      have HS0 := Lib.hid hs0
      have HO := Lib.hid ho
      have HGR := Lib.hid hgr
      clear hat hr ho hgr hLL hT hs0 ho1
      generalize hnn : area (fun i => L i && oneB C i) C.length = nn at *
      have HNN := Lib.hid hnn
      clear hnn
      have hts : (0 : Int) ≤ s0 ∧ (s0 : Int) ≤ 9223372036854775807 := by have := HS0.out; omega
      have hss : (s0 : Int) ≤ max x.s 0 ∧ max x.s 0 ≤ (s0 : Int) := by have := HS0.out; omega
      have htN : T ≤ C.length := by have := HTT.out; split at this <;> omega
      by_cases hx : 1 ≤ x.n
      · have ht1 : T ≤ x.s + x.n := by have := HTT.out; rw [if_pos hx] at this; omega
        have ht3 : x.s + x.n ≤ T ∨ (C.length : Int) ≤ T := by have := HTT.out; rw [if_pos hx] at this; omega
        by_cases hs : x.s < 0
        · have d1 : decide (x.s < 0) = true := decide_eq_true hs
          go_wp2_with fail
          all_goals
            have hsz := (HO.out.lt g rfl).2
            have hgW : w1.grownBy (wr.alloc (.cells #[.int .i64 x.a, .int .i64 x.n, .int .i64 x.s] 32)) (some g) := World.grownBy.next HGR.out (World.grownBy_alloc _ _ _)
            have HOW := Lib.hid (HO.out.keep ((Below.refl _ _).onAlloc (.cells #[.int .i64 x.a, .int .i64 x.n, .int .i64 x.s] 32)))
            have hst : (0 : Int) = s0 := by have := HS0.out; omega
            have HST := Lib.hid hst
            clear hst
            generalize wr.alloc (.cells #[.int .i64 x.a, .int .i64 x.n, .int .i64 x.s] 32) = W0 at *
            have HGW := Lib.hid hgW
            clear hgW hsz
            go_loopw [6, 10] (fun nv t wi => ∃ p : Nat, s0 ≤ p ∧ ((p : Int) ≤ T ∨ p = s0) ∧ t = .int .i64 p ∧ nv = .int .i64 (area (fun i => seenB L s0 p i && oneB C i) C.length) ∧ OwnM wi w.heap.size (.slice (some ⟨g, 0, none⟩) C.length C.length) (mk (seenB L s0 p) C.length) ∧ w1.grownBy wi (some g)) (fun _ t _ => (T - (match t with | .int _ n => n | _ => 0)).toNat)
            case atStart =>
              refine ⟨s0, Nat.le_refl _, .inr rfl, by rw [HST.out], ?_, ?_, HGW.out⟩
              · rw [area_congr (fun i => seenB L s0 s0 i && oneB C i) (fun i => L i && oneB C i) _ fun i _ => by rw [seenB_zero L s0 s0 (Nat.le_refl _)], HNN.out]
              · rw [mk_congr (seenB L s0 s0) L _ fun i _ => seenB_zero L s0 s0 (Nat.le_refl _) i]
                exact HOW.out
            case round =>
              obtain ⟨p, hp1, hp2, rfl, rfl, hoi, hgi⟩ := hrel
              have hBi := hB1.onGrow hgi (by intro j hj; simp at hj; omega)
              have hci := hgi.cell hc1 (by simp; omega)
              by_cases hlp : (p : Int) < T
              · have hpN : p < C.length := by omega
                obtain ⟨b2, o2, he2, hat2⟩ := (hrC.keep hBi).at (by omega)
                have h4 := hat2 p _ (getD_some C p hpN)
                have hml := mk_length (seenB L s0 p) C.length
                have hcell := hoi.cells.1 p _ (getD_someM _ p (by rw [hml]; exact hpN))
                have hfree := hoi.cells.2 p
                rw [mk_get _ _ _ hpN] at hcell
                obtain ⟨HO2, hg3⟩ := OwnM.set (by rw [hml]) hoi p true
                rw [seen_step L s0 p C.length hp1] at HO2
                have HO2 := Lib.hid HO2
                have HG3 := Lib.hid (World.grownBy.next hgi hg3)
                have HSAME := Lib.hid (seen_same L C s0 p C.length hp1)
                have HMORE := Lib.hid (seen_more L C s0 p C.length hp1 hpN)
                have hob : oneB C p = (C.getD p 0 == 1) := by unfold oneB; rw [Bool.eq_iff_iff]; simp
                rw [hob] at HSAME HMORE
                have har2 := area_le (fun i => seenB L s0 p i && oneB C i) C.length
                generalize area (fun i => seenB L s0 p i && oneB C i) C.length = q at *
                generalize C.getD p 0 = y at *
                generalize seenB L s0 p p = sb at *
                subst he2
                clear hoi hgi hg3 hat2 hml hob
                cases sb
                · cases hy : (y == 1)
                  · have HE := Lib.hid (HSAME.out (by rw [hy]; rfl))
                    clear HSAME HMORE
                    go_wp2
                    go_roundw
                    case rel => exact ⟨p + 1, by omega, .inl (by omega), by go_num, by rw [HE.out], HO2.out, HG3.out⟩
                    case measure => simp <;> omega
                  · have HE := Lib.hid (HMORE.out rfl hy)
                    clear HSAME HMORE
                    go_wp2
                    go_roundw
                    case rel => exact ⟨p + 1, by omega, .inl (by omega), by go_num, by rw [HE.out]; go_num, HO2.out, HG3.out⟩
                    case measure => simp <;> omega
                · have HE := Lib.hid (HSAME.out rfl)
                  clear HSAME HMORE
                  go_wp2
                  go_roundw
                  case rel => exact ⟨p + 1, by omega, .inl (by omega), by go_num, by rw [HE.out], HO2.out, HG3.out⟩
                  case measure => simp <;> omega
              · have HOI := Lib.hid hoi
                have HGI := Lib.hid hgi
                have HALL := Lib.hid (fun i hi => seen_all L x s0 p C.length T HS0.out HTT.out hp1 (by omega) hp2 i hi)
                clear hoi hgi
                go_wp2_with fail
                go_roundw
                case rel =>
                  refine ⟨k + 1, by omega, by go_num, ?_, ?_, HGI.out⟩
                  · rw [area_congr (fun i => seenB L s0 p i && oneB C i) (fun i => listB (l.take (k + 1)) i && oneB C i) _ fun i hi => by rw [HALL.out i hi, HLT.out i]]
                  · rw [← mk_congr (seenB L s0 p) (listB (l.take (k + 1))) _ fun i hi => by rw [HALL.out i hi, HLT.out i]]
                    exact HOI.out
                case measure => simp [intOf]; omega
        · have d1 : decide (x.s < 0) = false := decide_eq_false hs
          by_cases hbig : (C.length : Int) ≤ x.s
          · go_wp2_with fail
            all_goals
              have hsz := (HO.out.lt g rfl).2
              have hgW : w1.grownBy (wr.alloc (.cells #[.int .i64 x.a, .int .i64 x.n, .int .i64 x.s] 32)) (some g) := World.grownBy.next HGR.out (World.grownBy_alloc _ _ _)
              have HOW := Lib.hid (HO.out.keep ((Below.refl _ _).onAlloc (.cells #[.int .i64 x.a, .int .i64 x.n, .int .i64 x.s] 32)))
              have hst : (x.s : Int) = s0 := by have := HS0.out; omega
              have HST := Lib.hid hst
              clear hst
              generalize wr.alloc (.cells #[.int .i64 x.a, .int .i64 x.n, .int .i64 x.s] 32) = W0 at *
              have HGW := Lib.hid hgW
              clear hgW hsz
              go_loopw [6, 10] (fun nv t wi => ∃ p : Nat, s0 ≤ p ∧ ((p : Int) ≤ T ∨ p = s0) ∧ t = .int .i64 p ∧ nv = .int .i64 (area (fun i => seenB L s0 p i && oneB C i) C.length) ∧ OwnM wi w.heap.size (.slice (some ⟨g, 0, none⟩) C.length C.length) (mk (seenB L s0 p) C.length) ∧ w1.grownBy wi (some g)) (fun _ t _ => (T - (match t with | .int _ n => n | _ => 0)).toNat)
              case atStart =>
                refine ⟨s0, Nat.le_refl _, .inr rfl, by rw [HST.out], ?_, ?_, HGW.out⟩
                · rw [area_congr (fun i => seenB L s0 s0 i && oneB C i) (fun i => L i && oneB C i) _ fun i _ => by rw [seenB_zero L s0 s0 (Nat.le_refl _)], HNN.out]
                · rw [mk_congr (seenB L s0 s0) L _ fun i _ => seenB_zero L s0 s0 (Nat.le_refl _) i]
                  exact HOW.out
              case round =>
                obtain ⟨p, hp1, hp2, rfl, rfl, hoi, hgi⟩ := hrel
                have hBi := hB1.onGrow hgi (by intro j hj; simp at hj; omega)
                have hci := hgi.cell hc1 (by simp; omega)
                by_cases hlp : (p : Int) < T
                · exfalso; omega
                · have HOI := Lib.hid hoi
                  have HGI := Lib.hid hgi
                  have HALL := Lib.hid (fun i hi => seen_all L x s0 p C.length T HS0.out HTT.out hp1 (by omega) hp2 i hi)
                  clear hoi hgi
                  go_wp2_with fail
                  go_roundw
                  case rel =>
                    refine ⟨k + 1, by omega, by go_num, ?_, ?_, HGI.out⟩
                    · rw [area_congr (fun i => seenB L s0 p i && oneB C i) (fun i => listB (l.take (k + 1)) i && oneB C i) _ fun i hi => by rw [HALL.out i hi, HLT.out i]]
                    · rw [← mk_congr (seenB L s0 p) (listB (l.take (k + 1))) _ fun i hi => by rw [HALL.out i hi, HLT.out i]]
                      exact HOI.out
                  case measure => simp [intOf]; omega
          · go_wp2_with fail
            all_goals
              have hsz := (HO.out.lt g rfl).2
              have hgW : w1.grownBy (wr.alloc (.cells #[.int .i64 x.a, .int .i64 x.n, .int .i64 x.s] 32)) (some g) := World.grownBy.next HGR.out (World.grownBy_alloc _ _ _)
              have HOW := Lib.hid (HO.out.keep ((Below.refl _ _).onAlloc (.cells #[.int .i64 x.a, .int .i64 x.n, .int .i64 x.s] 32)))
              have hst : (x.s : Int) = s0 := by have := HS0.out; omega
              have HST := Lib.hid hst
              clear hst
              generalize wr.alloc (.cells #[.int .i64 x.a, .int .i64 x.n, .int .i64 x.s] 32) = W0 at *
              have HGW := Lib.hid hgW
              clear hgW hsz
              go_loopw [6, 10] (fun nv t wi => ∃ p : Nat, s0 ≤ p ∧ ((p : Int) ≤ T ∨ p = s0) ∧ t = .int .i64 p ∧ nv = .int .i64 (area (fun i => seenB L s0 p i && oneB C i) C.length) ∧ OwnM wi w.heap.size (.slice (some ⟨g, 0, none⟩) C.length C.length) (mk (seenB L s0 p) C.length) ∧ w1.grownBy wi (some g)) (fun _ t _ => (T - (match t with | .int _ n => n | _ => 0)).toNat)
              case atStart =>
                refine ⟨s0, Nat.le_refl _, .inr rfl, by rw [HST.out], ?_, ?_, HGW.out⟩
                · rw [area_congr (fun i => seenB L s0 s0 i && oneB C i) (fun i => L i && oneB C i) _ fun i _ => by rw [seenB_zero L s0 s0 (Nat.le_refl _)], HNN.out]
                · rw [mk_congr (seenB L s0 s0) L _ fun i _ => seenB_zero L s0 s0 (Nat.le_refl _) i]
                  exact HOW.out
              case round =>
                obtain ⟨p, hp1, hp2, rfl, rfl, hoi, hgi⟩ := hrel
                have hBi := hB1.onGrow hgi (by intro j hj; simp at hj; omega)
                have hci := hgi.cell hc1 (by simp; omega)
                by_cases hlp : (p : Int) < T
                · have hpN : p < C.length := by omega
                  obtain ⟨b2, o2, he2, hat2⟩ := (hrC.keep hBi).at (by omega)
                  have h4 := hat2 p _ (getD_some C p hpN)
                  have hml := mk_length (seenB L s0 p) C.length
                  have hcell := hoi.cells.1 p _ (getD_someM _ p (by rw [hml]; exact hpN))
                  have hfree := hoi.cells.2 p
                  rw [mk_get _ _ _ hpN] at hcell
                  obtain ⟨HO2, hg3⟩ := OwnM.set (by rw [hml]) hoi p true
                  rw [seen_step L s0 p C.length hp1] at HO2
                  have HO2 := Lib.hid HO2
                  have HG3 := Lib.hid (World.grownBy.next hgi hg3)
                  have HSAME := Lib.hid (seen_same L C s0 p C.length hp1)
                  have HMORE := Lib.hid (seen_more L C s0 p C.length hp1 hpN)
                  have hob : oneB C p = (C.getD p 0 == 1) := by unfold oneB; rw [Bool.eq_iff_iff]; simp
                  rw [hob] at HSAME HMORE
                  have har2 := area_le (fun i => seenB L s0 p i && oneB C i) C.length
                  generalize area (fun i => seenB L s0 p i && oneB C i) C.length = q at *
                  generalize C.getD p 0 = y at *
                  generalize seenB L s0 p p = sb at *
                  subst he2
                  clear hoi hgi hg3 hat2 hml hob
                  cases sb
                  · cases hy : (y == 1)
                    · have HE := Lib.hid (HSAME.out (by rw [hy]; rfl))
                      clear HSAME HMORE
                      go_wp2
                      go_roundw
                      case rel => exact ⟨p + 1, by omega, .inl (by omega), by go_num, by rw [HE.out], HO2.out, HG3.out⟩
                      case measure => simp <;> omega
                    · have HE := Lib.hid (HMORE.out rfl hy)
                      clear HSAME HMORE
                      go_wp2
                      go_roundw
                      case rel => exact ⟨p + 1, by omega, .inl (by omega), by go_num, by rw [HE.out]; go_num, HO2.out, HG3.out⟩
                      case measure => simp <;> omega
                  · have HE := Lib.hid (HSAME.out rfl)
                    clear HSAME HMORE
                    go_wp2
                    go_roundw
                    case rel => exact ⟨p + 1, by omega, .inl (by omega), by go_num, by rw [HE.out], HO2.out, HG3.out⟩
                    case measure => simp <;> omega
                · have HOI := Lib.hid hoi
                  have HGI := Lib.hid hgi
                  have HALL := Lib.hid (fun i hi => seen_all L x s0 p C.length T HS0.out HTT.out hp1 (by omega) hp2 i hi)
                  clear hoi hgi
                  go_wp2_with fail
                  go_roundw
                  case rel =>
                    refine ⟨k + 1, by omega, by go_num, ?_, ?_, HGI.out⟩
                    · rw [area_congr (fun i => seenB L s0 p i && oneB C i) (fun i => listB (l.take (k + 1)) i && oneB C i) _ fun i hi => by rw [HALL.out i hi, HLT.out i]]
                    · rw [← mk_congr (seenB L s0 p) (listB (l.take (k + 1))) _ fun i hi => by rw [HALL.out i hi, HLT.out i]]
                      exact HOI.out
                  case measure => simp [intOf]; omega
      · have ht1 : T ≤ 0 := by have := HTT.out; rw [if_neg hx] at this; omega
        have ht3 : 0 ≤ T := by have := HTT.out; rw [if_neg hx] at this; omega
        by_cases hs : x.s < 0
        · have d1 : decide (x.s < 0) = true := decide_eq_true hs
          go_wp2_with fail
          all_goals
            have hsz := (HO.out.lt g rfl).2
            have hgW : w1.grownBy (wr.alloc (.cells #[.int .i64 x.a, .int .i64 x.n, .int .i64 x.s] 32)) (some g) := World.grownBy.next HGR.out (World.grownBy_alloc _ _ _)
            have HOW := Lib.hid (HO.out.keep ((Below.refl _ _).onAlloc (.cells #[.int .i64 x.a, .int .i64 x.n, .int .i64 x.s] 32)))
            have hst : (0 : Int) = s0 := by have := HS0.out; omega
            have HST := Lib.hid hst
            clear hst
            generalize wr.alloc (.cells #[.int .i64 x.a, .int .i64 x.n, .int .i64 x.s] 32) = W0 at *
            have HGW := Lib.hid hgW
            clear hgW hsz
            go_loopw [6, 10] (fun nv t wi => ∃ p : Nat, s0 ≤ p ∧ ((p : Int) ≤ T ∨ p = s0) ∧ t = .int .i64 p ∧ nv = .int .i64 (area (fun i => seenB L s0 p i && oneB C i) C.length) ∧ OwnM wi w.heap.size (.slice (some ⟨g, 0, none⟩) C.length C.length) (mk (seenB L s0 p) C.length) ∧ w1.grownBy wi (some g)) (fun _ t _ => (T - (match t with | .int _ n => n | _ => 0)).toNat)
            case atStart =>
              refine ⟨s0, Nat.le_refl _, .inr rfl, by rw [HST.out], ?_, ?_, HGW.out⟩
              · rw [area_congr (fun i => seenB L s0 s0 i && oneB C i) (fun i => L i && oneB C i) _ fun i _ => by rw [seenB_zero L s0 s0 (Nat.le_refl _)], HNN.out]
              · rw [mk_congr (seenB L s0 s0) L _ fun i _ => seenB_zero L s0 s0 (Nat.le_refl _) i]
                exact HOW.out
            case round =>
              obtain ⟨p, hp1, hp2, rfl, rfl, hoi, hgi⟩ := hrel
              have hBi := hB1.onGrow hgi (by intro j hj; simp at hj; omega)
              have hci := hgi.cell hc1 (by simp; omega)
              by_cases hlp : (p : Int) < T
              · exfalso; omega
              · have HOI := Lib.hid hoi
                have HGI := Lib.hid hgi
                have HALL := Lib.hid (fun i hi => seen_all L x s0 p C.length T HS0.out HTT.out hp1 (by omega) hp2 i hi)
                clear hoi hgi
                go_wp2_with fail
                go_roundw
                case rel =>
                  refine ⟨k + 1, by omega, by go_num, ?_, ?_, HGI.out⟩
                  · rw [area_congr (fun i => seenB L s0 p i && oneB C i) (fun i => listB (l.take (k + 1)) i && oneB C i) _ fun i hi => by rw [HALL.out i hi, HLT.out i]]
                  · rw [← mk_congr (seenB L s0 p) (listB (l.take (k + 1))) _ fun i hi => by rw [HALL.out i hi, HLT.out i]]
                    exact HOI.out
                case measure => simp [intOf]; omega
        · have d1 : decide (x.s < 0) = false := decide_eq_false hs
          by_cases hbig : (C.length : Int) ≤ x.s
          · go_wp2_with fail
            all_goals
              have hsz := (HO.out.lt g rfl).2
              have hgW : w1.grownBy (wr.alloc (.cells #[.int .i64 x.a, .int .i64 x.n, .int .i64 x.s] 32)) (some g) := World.grownBy.next HGR.out (World.grownBy_alloc _ _ _)
              have HOW := Lib.hid (HO.out.keep ((Below.refl _ _).onAlloc (.cells #[.int .i64 x.a, .int .i64 x.n, .int .i64 x.s] 32)))
              have hst : (x.s : Int) = s0 := by have := HS0.out; omega
              have HST := Lib.hid hst
              clear hst
              generalize wr.alloc (.cells #[.int .i64 x.a, .int .i64 x.n, .int .i64 x.s] 32) = W0 at *
              have HGW := Lib.hid hgW
              clear hgW hsz
              go_loopw [6, 10] (fun nv t wi => ∃ p : Nat, s0 ≤ p ∧ ((p : Int) ≤ T ∨ p = s0) ∧ t = .int .i64 p ∧ nv = .int .i64 (area (fun i => seenB L s0 p i && oneB C i) C.length) ∧ OwnM wi w.heap.size (.slice (some ⟨g, 0, none⟩) C.length C.length) (mk (seenB L s0 p) C.length) ∧ w1.grownBy wi (some g)) (fun _ t _ => (T - (match t with | .int _ n => n | _ => 0)).toNat)
              case atStart =>
                refine ⟨s0, Nat.le_refl _, .inr rfl, by rw [HST.out], ?_, ?_, HGW.out⟩
                · rw [area_congr (fun i => seenB L s0 s0 i && oneB C i) (fun i => L i && oneB C i) _ fun i _ => by rw [seenB_zero L s0 s0 (Nat.le_refl _)], HNN.out]
                · rw [mk_congr (seenB L s0 s0) L _ fun i _ => seenB_zero L s0 s0 (Nat.le_refl _) i]
                  exact HOW.out
              case round =>
                obtain ⟨p, hp1, hp2, rfl, rfl, hoi, hgi⟩ := hrel
                have hBi := hB1.onGrow hgi (by intro j hj; simp at hj; omega)
                have hci := hgi.cell hc1 (by simp; omega)
                by_cases hlp : (p : Int) < T
                · exfalso; omega
                · have HOI := Lib.hid hoi
                  have HGI := Lib.hid hgi
                  have HALL := Lib.hid (fun i hi => seen_all L x s0 p C.length T HS0.out HTT.out hp1 (by omega) hp2 i hi)
                  clear hoi hgi
                  go_wp2_with fail
                  go_roundw
                  case rel =>
                    refine ⟨k + 1, by omega, by go_num, ?_, ?_, HGI.out⟩
                    · rw [area_congr (fun i => seenB L s0 p i && oneB C i) (fun i => listB (l.take (k + 1)) i && oneB C i) _ fun i hi => by rw [HALL.out i hi, HLT.out i]]
                    · rw [← mk_congr (seenB L s0 p) (listB (l.take (k + 1))) _ fun i hi => by rw [HALL.out i hi, HLT.out i]]
                      exact HOI.out
                  case measure => simp [intOf]; omega
          · go_wp2_with fail
            all_goals
              have hsz := (HO.out.lt g rfl).2
              have hgW : w1.grownBy (wr.alloc (.cells #[.int .i64 x.a, .int .i64 x.n, .int .i64 x.s] 32)) (some g) := World.grownBy.next HGR.out (World.grownBy_alloc _ _ _)
              have HOW := Lib.hid (HO.out.keep ((Below.refl _ _).onAlloc (.cells #[.int .i64 x.a, .int .i64 x.n, .int .i64 x.s] 32)))
              have hst : (x.s : Int) = s0 := by have := HS0.out; omega
              have HST := Lib.hid hst
              clear hst
              generalize wr.alloc (.cells #[.int .i64 x.a, .int .i64 x.n, .int .i64 x.s] 32) = W0 at *
              have HGW := Lib.hid hgW
              clear hgW hsz
              go_loopw [6, 10] (fun nv t wi => ∃ p : Nat, s0 ≤ p ∧ ((p : Int) ≤ T ∨ p = s0) ∧ t = .int .i64 p ∧ nv = .int .i64 (area (fun i => seenB L s0 p i && oneB C i) C.length) ∧ OwnM wi w.heap.size (.slice (some ⟨g, 0, none⟩) C.length C.length) (mk (seenB L s0 p) C.length) ∧ w1.grownBy wi (some g)) (fun _ t _ => (T - (match t with | .int _ n => n | _ => 0)).toNat)
              case atStart =>
                refine ⟨s0, Nat.le_refl _, .inr rfl, by rw [HST.out], ?_, ?_, HGW.out⟩
                · rw [area_congr (fun i => seenB L s0 s0 i && oneB C i) (fun i => L i && oneB C i) _ fun i _ => by rw [seenB_zero L s0 s0 (Nat.le_refl _)], HNN.out]
                · rw [mk_congr (seenB L s0 s0) L _ fun i _ => seenB_zero L s0 s0 (Nat.le_refl _) i]
                  exact HOW.out
              case round =>
                obtain ⟨p, hp1, hp2, rfl, rfl, hoi, hgi⟩ := hrel
                have hBi := hB1.onGrow hgi (by intro j hj; simp at hj; omega)
                have hci := hgi.cell hc1 (by simp; omega)
                by_cases hlp : (p : Int) < T
                · exfalso; omega
                · have HOI := Lib.hid hoi
                  have HGI := Lib.hid hgi
                  have HALL := Lib.hid (fun i hi => seen_all L x s0 p C.length T HS0.out HTT.out hp1 (by omega) hp2 i hi)
                  clear hoi hgi
                  go_wp2_with fail
                  go_roundw
                  case rel =>
                    refine ⟨k + 1, by omega, by go_num, ?_, ?_, HGI.out⟩
                    · rw [area_congr (fun i => seenB L s0 p i && oneB C i) (fun i => listB (l.take (k + 1)) i && oneB C i) _ fun i hi => by rw [HALL.out i hi, HLT.out i]]
                    · rw [← mk_congr (seenB L s0 p) (listB (l.take (k + 1))) _ fun i hi => by rw [HALL.out i hi, HLT.out i]]
                      exact HOI.out
                  case measure => simp [intOf]; omega
    · rw [List.take_of_length_le (by omega)]
      go_wp2
      go_ret
      exact ⟨rfl, hB⟩
end Go.Proofs.Ytnfaciageadlkaa
