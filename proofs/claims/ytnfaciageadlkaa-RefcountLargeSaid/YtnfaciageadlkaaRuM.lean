/-
  extent.Runs.
  Conditions: as each theorem says.
-/
import Derived.Test.YtnfaciageadlkaaRuS
import Derived.Test.YtnfaciageadlkaaRuR
import Derived.Shelf.SlSortCmp.NoneTotal
namespace Go.Proofs.Ytnfaciageadlkaa
set_option linter.unusedSimpArgs false
set_option linter.unusedVariables false
set_option maxRecDepth 100000
open Go.RowKit

theorem sort_own (v : Value) (l : List E) (B : Nat) (w : World) (hown : OwnE w B v l) (hl : l.length ≤ 1000000000) :
    Calls Try.prog 29 #[v, .func (.func 30) #[] #[]] w fun e w' =>
      e = .returned (.tuple #[]) ∧ ∃ d : List E, OwnE w' B v d ∧ w.grownBy w' v.ownBlock ∧ (∀ x, x ∈ d ↔ x ∈ l) ∧ d.Pairwise (fun x y => x.s ≤ y.s) ∧ d.length = l.length := by
  rcases hown.form with ⟨rfl, rfl⟩ | ⟨g, c, rfl, _⟩
  · have hcon := AnyF.slices_SortFunc_none { Try.sortE with } none 0 (.func (.func 30) #[] #[]) w
    change Calls Try.prog 29 _ _ _ at hcon
    refine hcon.mono ?_
    rintro e w' ⟨rfl, rfl⟩
    exact ⟨rfl, [], hown, ⟨rfl, rfl, rfl, Nat.le_refl _, fun _ _ _ => rfl⟩, fun x => Iff.rfl, by simp, rfl⟩
  · exact sort_any g c l B w hown hl

set_option maxRecDepth 100000 in
set_option maxHeartbeats 4000000 in
theorem runs_any (l : List E) (a : Option Addr) (c : Nat) (w : World) (hr : Rd w a l) (hw : wfL l) (hl : l.length ≤ 1000000000) :
    Calls Try.prog 21 #[.slice a l.length c] w fun e w' => ∃ v, e = .returned v ∧ OwnE w' w.heap.size v (runsL l) ∧ Below w.heap.size w w' := by
  obtain ⟨i0, hi, hz0, hz1, hz2⟩ := info_parts infoE
  go_enter Try.func21, Try.ntmps21
  go_wp2_with fail
  refine (clone_any l _ _ _ hr hl).mono ?_
  rintro e w1 ⟨v1, rfl, ho1, hb1⟩
  clear hr
  go_wp2_with fail
  refine (delete_any v1 l w.heap.size _ ho1 hl hw hb1.size).mono ?_
  rintro e w2 ⟨v2, rfl, ho2, hg2, hv2⟩
  have hB2 := hb1.onGrow hg2 fun j hj => (ho1.lt j hj).1
  have hfl := List.length_filter_le okB l
  clear ho1 hb1 hg2 hv2
  go_wp2_with fail
  refine (sort_own v2 (l.filter okB) w.heap.size _ ho2 (by omega)).mono ?_
  rintro e w3 ⟨rfl, d, ho3, hg3, hmem, hsort, hdl⟩
  have hB3 := hB2.onGrow hg3 fun j hj => (ho2.lt j hj).1
  have HD := Lib.hid (runs_sorted l d hmem hsort)
  have HOK : Hid (∀ x ∈ d, okB x = true) := Lib.hid fun x hx => (List.mem_filter.1 ((hmem x).1 hx)).2
  have HS := Lib.hid hsort
  have hdl2 : d.length ≤ 1000000000 := by omega
  obtain ⟨a3, c3, rfl, hr3⟩ := ho3.rd (by omega)
  clear ho2 hg3 hmem hsort hdl hB2 ho3 hw hfl
  go_wp2_with fail
  go_loopw [4, 15] (fun v i wr => ∃ k : Nat, k ≤ d.length ∧ i = .int .i64 k ∧ OwnE wr w3.heap.size v (mergeL (d.take k)) ∧ Below w3.heap.size w3 wr) (fun _ i _ => d.length - (intOf i).toNat)
  case atStart => exact ⟨0, Nat.zero_le _, rfl, OwnE.nil _ _, Below.refl _ _⟩
  case round =>
    obtain ⟨k, hk, rfl, ho, hB⟩ := hrel
    by_cases hlt : k < d.length
    · obtain ⟨b, o, rfl, hat⟩ := (hr3.keep hB).at (by omega)
      obtain ⟨h1, h2, h3⟩ := hat k _ (List.getElem?_eq_getElem hlt)
      obtain ⟨c1, c2, c3, c4, c5⟩ := (okB_iff _).1 (HOK.out _ (List.getElem_mem hlt))
      have HT := Lib.hid (mergeL_take d k hlt)
      obtain ⟨f1, f2, f3⟩ := mergeL_facts (d.take k) (fun x hx => HOK.out x (List.mem_of_mem_take hx)) (HS.out.sublist (List.take_sublist k d))
      have hjl := canon_short f1
      generalize d[k] = x at *
      generalize mergeL (d.take k) = R at *
      have HF1 := Lib.hid f1
      clear f1 f2 f3 hat
      by_cases hR : R = []
      · subst hR
        have HR := Lib.hid ho
        obtain ⟨a4, c4, rfl⟩ : ∃ a c, u4 = .slice a 0 c := by
          rcases ho.form with ⟨rfl, _⟩ | ⟨g, c, rfl, _⟩
          · exact ⟨_, _, rfl⟩
          · exact ⟨_, _, rfl⟩
        clear ho hr3
        go_wp2_with fail
        refine wpr ?_
        repeat (go_big_quiet_step (fail))
        refine wqn fun nq => ?_
        generalize hW : World.next _ nq = W
        have hb : Below wr.heap.size wr W := by rw [← hW]; exact ((Below.refl _ _).onAlloc _).onNext _
        have x2 : W.cell? ⟨wr.heap.size, 1, none⟩ = some (.int .i64 x.n) := by rw [← hW]; simp
        have x3 : W.cell? ⟨wr.heap.size, 2, none⟩ = some (.int .i64 x.s) := by rw [← hW]; simp
        have HR2 := Lib.hid (HR.out.keep hb)
        have hB2 := hB.on hb
        have hsz2 := hB2.size
        clear hW hb h1 h2 h3 HR
        go_wp2_with (at_builtin; refine wpList_append_x _ rfl _ _ 34 rfl w3.heap.size 32 i0 (.agg #[.int .i64 0, .int .i64 0, .int .i64 0]) 3 24 Try.underlying34 hi hz0 hz1 hz2 rfl (by decide) _ _ _ rfl (World.ownsRow.alloc HR2.out _) ⟨W.heap.size, 0, none⟩ 1 1 (E.cells (⟨0, x.n, x.s⟩ : E)) rfl rfl (newE _ _ (by simp) _ _) (cellsE_one _) (by first | omega | (simp only [List.length_nil, List.length_append, List.length_cons]; omega)) (by first | (simp only [maxLen]; omega) | (simp only [maxLen, List.length_nil, List.length_append, List.length_cons]; omega)) (by simp only [World.size_alloc]; omega) ?_; intro v1 w1 hown1 hgrow1 hwhere1)
        have hB4 := Lib.hid ((hB2.onAlloc (.cells #[.int .i64 0, .int .i64 x.n, .int .i64 x.s] 32)).onGrow hgrow1 fun j hj => (HR2.out.lt j hj).1)
        have HO4 := Lib.hid (OwnE.snoc hown1 (by simp))
        clear hown1 hgrow1 hwhere1
        go_roundw
        case rel => exact ⟨k + 1, by omega, by go_num, by rw [HT.out]; exact HO4.out, hB4.out⟩
        case measure => simp [intOf]; omega
      · obtain ⟨C, y, rfl⟩ := snoc_of R hR
        obtain ⟨g, c4, rfl, hg1, hg2, hc1, hc2, hgt, hfz⟩ := (ho.form).resolve_left (by simp)
        obtain ⟨y1, y2, y3⟩ := hgt C.length y (by simp)
        simp only [List.length_append, List.length_cons, List.length_nil, Nat.zero_add] at y1 y2 y3 hc1 hjl
        have hf := hfz (C.length * 3 + 1)
        obtain ⟨e1, e2, e3, e4, e5⟩ := (okB_iff y).1 (HF1.out.1 y (by simp)).2
        have hlen : (C ++ [y]).length = C.length + 1 := by simp
        have HR := Lib.hid ho
        rw [hlen] at HR ⊢
        have hd : decide (0 ≤ C.length) = true := by simp
        clear hgt hfz hlen ho hR hr3
        by_cases hm : x.s ≤ y.s + y.n
        · have hsb : decide (x.s ≤ y.s + y.n) = true := decide_eq_true hm
          have HG := Lib.hid (pushR_yes C y x hm)
          clear hm
          go_wp2_with fail
          refine wpr ?_
          repeat (go_big_quiet_step (fail))
          refine wqn fun nq => ?_
          generalize hW : World.next _ nq = W
          have hb : Below wr.heap.size wr W := by rw [← hW]; exact ((Below.refl _ _).onAlloc _).onNext _
          have x2 : W.cell? ⟨wr.heap.size, 1, none⟩ = some (.int .i64 x.n) := by rw [← hW]; simp
          have x3 : W.cell? ⟨wr.heap.size, 2, none⟩ = some (.int .i64 x.s) := by rw [← hW]; simp
          have hfr := hb.keepF y2 hf
          have z2 := hb.keep y2
          have z3 := hb.keep y3
          have HR2 := Lib.hid (HR.out.keep hb)
          have hB2 := hB.on hb
          clear hW hb h1 h2 h3 y1 y2 y3 hf HR
          go_wp2_with fail
          refine wprt 21 ?_
          simp only [List.take_succ_cons, List.take_zero, List.drop_succ_cons, List.drop_zero]
          repeat (go_big_quiet_step (fail))
          refine wqn fun nq => ?_
          have hB3' := hB2.onNext nq
          have HR3 := Lib.hid (HR2.out.keep (World.below_next W nq))
          go_wp2_with fail
          have hst := HR3.out.setn rfl (max y.n (x.s + x.n - y.s))
          have HS1 := Lib.hid hst.1
          have HS2 := Lib.hid hst.2
          clear hst
          go_roundw
          case rel => exact ⟨k + 1, by omega, by go_num, by rw [HT.out, HG.out]; exact HS1.out, hB3'.onGrow HS2.out fun j hj => by simp at hj; omega⟩
          case measure => simp [intOf]; omega
        · have hsb : decide (x.s ≤ y.s + y.n) = false := decide_eq_false hm
          have HG := Lib.hid (pushR_no C y x hm)
          clear hm
          go_wp2_with fail
          refine wpr ?_
          repeat (go_big_quiet_step (fail))
          refine wqn fun nq => ?_
          generalize hW : World.next _ nq = W
          have hb : Below wr.heap.size wr W := by rw [← hW]; exact ((Below.refl _ _).onAlloc _).onNext _
          have x2 : W.cell? ⟨wr.heap.size, 1, none⟩ = some (.int .i64 x.n) := by rw [← hW]; simp
          have x3 : W.cell? ⟨wr.heap.size, 2, none⟩ = some (.int .i64 x.s) := by rw [← hW]; simp
          have HR2 := Lib.hid (HR.out.keep hb)
          have hB2 := hB.on hb
          have hsz2 := hB2.size
          clear hW hb h1 h2 h3 y1 y2 y3 hf HR
          go_wp2_with (at_builtin; refine wpList_append_x _ rfl _ _ 34 rfl w3.heap.size 32 i0 (.agg #[.int .i64 0, .int .i64 0, .int .i64 0]) 3 24 Try.underlying34 hi hz0 hz1 hz2 rfl (by decide) _ _ _ rfl (World.ownsRow.alloc HR2.out _) ⟨W.heap.size, 0, none⟩ 1 1 (E.cells (⟨0, x.n, x.s⟩ : E)) rfl rfl (newE _ _ (by simp) _ _) (cellsE_one _) (by first | omega | (simp only [List.length_nil, List.length_append, List.length_cons]; omega)) (by first | (simp only [maxLen]; omega) | (simp only [maxLen, List.length_nil, List.length_append, List.length_cons]; omega)) (by simp only [World.size_alloc]; omega) ?_; intro v1 w1 hown1 hgrow1 hwhere1)
          have hB4 := Lib.hid ((hB2.onAlloc (.cells #[.int .i64 0, .int .i64 x.n, .int .i64 x.s] 32)).onGrow hgrow1 fun j hj => (HR2.out.lt j hj).1)
          have HO4 := Lib.hid (OwnE.snoc hown1 (by simp))
          clear hown1 hgrow1 hwhere1
          go_roundw
          case rel => exact ⟨k + 1, by omega, by go_num, by rw [HT.out, HG.out]; exact HO4.out, hB4.out⟩
          case measure => simp [intOf]; omega
    · go_wp2_with fail
      go_ret
      rw [List.take_of_length_le (by omega), HD.out] at ho
      exact ⟨_, rfl, ho.mono hB3.size, hB3.on hB⟩
end Go.Proofs.Ytnfaciageadlkaa
