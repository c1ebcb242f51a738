/-
  The specification's Cut, Same, Blocks, Find.
  Conditions: as each theorem says.
-/
import Derived.Test.YtolhajkbamhdgaaTgG
import Derived.Test.YtolhajkbamhdgaaTgR
namespace Go.Proofs.Ytolhajkbamhdgaa
set_option linter.unusedSimpArgs false
set_option linter.unusedVariables false
open Go.RowKit

theorem Rd.source {w : World} {a : Option Addr} {l : List E} (h : Rd w a l) : w.source 3 a l.length (cellsL l) := by
  refine ⟨cellsL_length l, cellsL_one l, ?_⟩
  rcases h.2 with rfl | ⟨b, o, rfl, hat⟩
  · cases a with
    | none => exact .inl ⟨rfl, rfl⟩
    | some ad => exact .inr ⟨ad, rfl, fun j u hu => by simp [cellsL] at hu⟩
  · refine .inr ⟨_, rfl, fun j u hu => ?_⟩
    have hj : j < l.length * 3 := by rw [← cellsL_length]; exact (List.getElem?_eq_some_iff.1 hu).1
    have hk : j / 3 < l.length := by omega
    obtain ⟨c1, c2, c3⟩ := cellsL_get l (j / 3) _ (List.getElem?_eq_getElem hk)
    obtain ⟨d1, d2, d3⟩ := hat (j / 3) _ (List.getElem?_eq_getElem hk)
    have hadd : (⟨b, o, none⟩ : Addr).add j = ⟨b, o + j, none⟩ := by unfold Addr.add; split <;> simp_all
    rw [hadd]
    rcases (by omega : j = j / 3 * 3 ∨ j = j / 3 * 3 + 1 ∨ j = j / 3 * 3 + 2) with e | e | e
    · rw [e] at hu ⊢; rw [c1] at hu; rw [← hu, d1]
    · rw [e] at hu ⊢; rw [c2] at hu; rw [← hu, ← Nat.add_assoc, d2]
    · rw [e] at hu ⊢; rw [c3] at hu; rw [← hu, ← Nat.add_assoc, d3]
theorem OwnE.source {w : World} {B : Nat} {v : Value} {l : List E} (h : OwnE w B v l) (hl : l.length ≤ 46912496118443) : ∃ a c, v = .slice a l.length c ∧ Rd w a l ∧ w.source 3 a l.length (cellsL l) := by
  obtain ⟨a, c, hv, hr⟩ := h.rd hl
  exact ⟨a, c, hv, hr, hr.source⟩
theorem OwnE.append {w : World} {B n : Nat} {v : Value} {l r : List E} (h : w.ownsRow B 41 3 v n (cellsL l ++ cellsL r)) (hn : n = l.length + r.length) : OwnE w B v (l ++ r) := by
  subst hn
  unfold OwnE
  rw [cellsL_append, List.length_append]
  exact h
theorem wfL_of_ok {l : List E} (h : ∀ x ∈ l, okB x = true) : wfL l := by
  intro x hx
  have := (okB_iff x).1 (h x hx)
  unfold E.wf
  omega



theorem guardE : Try.prog.eqGuardType Try.prog.depth 41 = false := by kernel_rfl
theorem heldE : Try.prog.stoodInHeld 41 = false := by kernel_rfl
theorem fieldsE : Try.prog.underlying 41 = some (.struct (Try.prog.fieldsOf 41)) := by kernel_rfl
theorem run_equalE (x y : E) (w : World) : (Op.equalIn 10000 41 (.agg #[.int .i64 x.a, .int .i64 x.n, .int .i64 x.s]) (.agg #[.int .i64 y.a, .int .i64 y.n, .int .i64 y.s])).run Try.prog w = .ok (eqE x y) w := by
  rw [run_equalIn_struct w 9999 41 _ _ fieldsE heldE]
  by_cases h1 : x.a = y.a <;> by_cases h2 : x.n = y.n <;> by_cases h3 : x.s = y.s <;>
    simp [Program.fieldsOf, Try.underlying41, Try.underlying3, Op.eqFields, go_sem, eqE, h1, h2, h3]
theorem run_neqE (x y : E) (w : World) (b : Bool) (hb : eqE x y = b) : (binOp .neq 41 (.agg #[.int .i64 x.a, .int .i64 x.n, .int .i64 x.s]) (.agg #[.int .i64 y.a, .int .i64 y.n, .int .i64 y.s])).run Try.prog w = .ok (.bool (!b)) w := by
  rw [run_neq_struct, run_equalE, hb]; rfl
theorem run_guardE (op : BinOp) (u v : Operand) (x y : E) (w : World) : (eqGuard op 41 u v (.agg #[.int .i64 x.a, .int .i64 x.n, .int .i64 x.s]) (.agg #[.int .i64 y.a, .int .i64 y.n, .int .i64 y.s])).run Try.prog w = .ok () w :=
  run_eqGuard_agg w op 41 u v _ _ guardE
set_option maxHeartbeats 400000 in
theorem same_any (l r : List E) (a b : Option Addr) (c d : Nat) (w : World) (hl : Rd w a l) (hr : Rd w b r) :
    Calls Try.prog 23 #[.slice a l.length c, .slice b r.length d] w fun e w' => e = .returned (.bool (sameB l r)) ∧ Below w.heap.size w w' := by
  have hl1 := hl.1
  have hr1 := hr.1
  by_cases hlen : l.length = r.length
  · have hb : ((l.length : Int) == (r.length : Int)) = true := by simp [hlen]
    have hb2 : ((l.length : Int) != (r.length : Int)) = false := by simp [hlen]
    have HL := Lib.hid hlen
    clear hlen
    go_enter Try.func23, Try.ntmps23
    go_wp2
    go_loopw [5] (fun i wr => ∃ k : Nat, k ≤ l.length ∧ i = .int .i64 k ∧ l.take k = r.take k ∧ Below w.heap.size w wr) (fun i _ => l.length - (intOf i).toNat)
    case atStart => exact ⟨0, Nat.zero_le _, rfl, by simp, Below.refl _ _⟩
    case round =>
      obtain ⟨k, hk, rfl, hv, hB⟩ := hrel
      by_cases hlt : k < l.length
      · have hlt2 : k < r.length := by rw [← HL.out]; exact hlt
        obtain ⟨b1, o1, rfl, hat1⟩ := (hl.keep hB).at (by omega)
        obtain ⟨b2, o2, rfl, hat2⟩ := (hr.keep hB).at (by omega)
        obtain ⟨h1, h2, h3⟩ := hat1 k _ (List.getElem?_eq_getElem hlt)
        obtain ⟨g1, g2, g3⟩ := hat2 k _ (List.getElem?_eq_getElem hlt2)
        have hv0 := hv
        clear hat1 hat2 hl hr hv
        have HT := Lib.hid (fun h : eqE l[k] r[k] = true => show l.take (k + 1) = r.take (k + 1) by
          rw [List.take_succ_eq_append_getElem hlt, List.take_succ_eq_append_getElem hlt2, hv0, (eqE_iff _ _).1 h])
        have HF := Lib.hid (fun h : eqE l[k] r[k] = false => show sameB l r = false by
          cases hs : sameB l r with
          | false => rfl
          | true =>
            have e := (sameB_iff _ _).1 hs
            subst e
            have := (eqE_iff l[k] l[k]).2 rfl
            rw [this] at h
            cases h)
        generalize l[k] = x at *
        generalize r[k] = y at *
        cases hq : eqE x y
        all_goals
          have HQ := Lib.hid hq
          have hne := fun w => run_neqE x y w _ hq
          have hgd := fun op u v w => run_guardE op u v x y w
          clear hq hv0
          go_wp2_with fail
          refine wp_region_next (by kernel_rfl) (by kernel_rfl) ?_
          repeat (go_big_quiet_step (fail))
          refine wpQuiet_nil ?_
          intro _ hw'
          obtain ⟨nq, hw''⟩ := hw'
          subst hw''
          clear hne hgd
          go_wp2_with fail
        · go_ret
          exact ⟨ret_bool (by simp [HF.out HQ.out]), hB.onNext _⟩
        · go_roundw
          case rel => exact ⟨k + 1, by omega, by go_num, HT.out HQ.out, hB.onNext _⟩
          case measure => simp [intOf]; omega
      · have HV := Lib.hid hv
        clear hv
        go_wp2
        go_ret
        refine ⟨ret_bool ?_, hB⟩
        have := HV.out
        rw [List.take_of_length_le (by omega), List.take_of_length_le (by rw [← HL.out]; omega)] at this
        rw [this, sameB_refl]
  · have hb2 : ((l.length : Int) != (r.length : Int)) = true := by simp; omega
    have HF : Hid (sameB l r = false) := by
      cases hs : sameB l r with
      | false => exact rfl
      | true => exact absurd (congrArg List.length ((sameB_iff _ _).1 hs)) hlen
    clear hlen
    go_enter Try.func23, Try.ntmps23
    go_wp2
    go_ret
    exact ⟨ret_bool (by simp [HF.out]), Below.refl _ _⟩
theorem same_is (l r : List E) (a b : Option Addr) (c d : Nat) (v : Bool) (w : World) (hv : sameB l r = v) (hl : Rd w a l) (hr : Rd w b r) :
    Calls Try.prog 23 #[.slice a l.length c, .slice b r.length d] w fun e w' => e = .returned (.bool v) ∧ Below w.heap.size w w' := by
  subst hv
  exact same_any l r a b c d w hl hr


end Go.Proofs.Ytolhajkbamhdgaa
