/-
  extent.Cut.
  The specification's Join, Cut, Same, Blocks, Find.
  The specification's Cut, Same, Blocks, Find.
  The law's own functions: copied, awake.
  Conditions: as each theorem says.
-/
import Derived.Test.YtnfaciageadlkaaGB
import Derived.Test.YtnfaciageadlkaaGA
namespace Go.Proofs.Ytnfaciageadlkaa
set_option linter.unusedSimpArgs false
set_option linter.unusedVariables false
set_option maxRecDepth 100000
open Go.RowKit

/-- Two owned lists beside a variable: the world of Cut's rounds. -/
structure St (w0 W : World) (X : Nat) (x : E) (vR : Value) (R : List E) (vM : Value) (M : List E) : Prop where
  x1 : W.cell? ⟨X, 0, none⟩ = some (.int .i64 x.a)
  x2 : W.cell? ⟨X, 1, none⟩ = some (.int .i64 x.n)
  x3 : W.cell? ⟨X, 2, none⟩ = some (.int .i64 x.s)
  hR : OwnE W w0.heap.size vR R
  hM : OwnE W w0.heap.size vM M
  nR : vR.ownBlock ≠ some X
  nM : vM.ownBlock ≠ some X
  sep : vR.ownBlock = none ∨ vR.ownBlock ≠ vM.ownBlock
  hB : Below w0.heap.size w0 W
section
variable {w0 W W' : World} {X : Nat} {x : E} {vR vM v : Value} {R M L : List E}
theorem St.later (h : St w0 W X x vR R vM M) (hb : Below W.heap.size W W') : St w0 W' X x vR R vM M :=
  ⟨hb.keep h.x1, hb.keep h.x2, hb.keep h.x3, h.hR.keep hb, h.hM.keep hb, h.nR, h.nM, h.sep, h.hB.on hb⟩
theorem St.alloc (h : St w0 W X x vR R vM M) (o : Obj) : St w0 (W.alloc o) X x vR R vM M := h.later ((Below.refl _ _).onAlloc o)
theorem St.lt (h : St w0 W X x vR R vM M) : X < W.heap.size := World.block_lt_of_cell? W _ h.x1
theorem St.pushR (h : St w0 W X x vR R vM M) (ho : OwnE W' w0.heap.size v L) (hg : W.grownBy W' vR.ownBlock) (hw : v.ownBlock = vR.ownBlock ∨ ∃ k, v.ownBlock = some k ∧ W.heap.size ≤ k) : St w0 W' X x v L vM M := by
  have hne : some X ≠ vR.ownBlock := fun e => h.nR e.symm
  have hsep : vM.ownBlock = none ∨ vM.ownBlock ≠ vR.ownBlock := by
    rcases h.sep with e | e
    · cases hm : vM.ownBlock with
      | none => exact .inl rfl
      | some j => exact .inr (by rw [e]; simp)
    · exact .inr (Ne.symm e)
  refine ⟨hg.cell h.x1 hne, hg.cell h.x2 hne, hg.cell h.x3 hne, ho, h.hM.other hg hsep, ?_, h.nM, ?_, h.hB.onGrow hg fun k hk => (h.hR.lt k hk).1⟩
  · rcases hw with e | ⟨k, e, hk⟩
    · rw [e]; exact h.nR
    · rw [e]; have := h.lt; simp; omega
  · rcases hw with e | ⟨k, e, hk⟩
    · rw [e]; exact h.sep
    · refine .inr ?_
      rw [e]
      intro he
      have := (h.hM.lt k he.symm).2
      omega
theorem St.swap (h : St w0 W X x vR R vM M) : St w0 W X x vM M vR R :=
  ⟨h.x1, h.x2, h.x3, h.hM, h.hR, h.nM, h.nR, by
    rcases h.sep with e | e
    · cases hm : vM.ownBlock with
      | none => exact .inl rfl
      | some j => exact .inr (by rw [e]; simp)
    · exact .inr (Ne.symm e), h.hB⟩
theorem St.pushM (h : St w0 W X x vR R vM M) (ho : OwnE W' w0.heap.size v L) (hg : W.grownBy W' vM.ownBlock) (hw : v.ownBlock = vM.ownBlock ∨ ∃ k, v.ownBlock = some k ∧ W.heap.size ≤ k) : St w0 W' X x vR R v L :=
  (h.swap.pushR ho hg hw).swap
end

/-- The two results of Cut. -/
def CutPost (w : World) (R M : List E) (e : Ending) (w' : World) : Prop :=
  ∃ v m, e = .returned (.tuple #[v, m, .int .i64 0]) ∧ OwnE w' w.heap.size v R ∧ OwnE w' w.heap.size m M ∧ (v.ownBlock = none ∨ v.ownBlock ≠ m.ownBlock) ∧ Below w.heap.size w w'


def CutNo (w : World) (e : Ending) (w' : World) : Prop := e = .returned (.tuple #[.slice none 0 0, .slice none 0 0, .int .i64 1]) ∧ Below w.heap.size w w'
end Go.Proofs.Ytnfaciageadlkaa

namespace Go.Proofs.Ytnfaciageadlkaa
set_option linter.unusedSimpArgs false
set_option linter.unusedVariables false
set_option maxRecDepth 100000
open Go.RowKit


end Go.Proofs.Ytnfaciageadlkaa

namespace Go.Proofs.Ytnfaciageadlkaa
set_option linter.unusedSimpArgs false
set_option linter.unusedVariables false
set_option maxRecDepth 100000
open Go.RowKit

theorem Rd.source {w : World} {a : Option Addr} {l : List E} (h : Rd w a l) : w.source 3 a l.length (cellsL l) := by
  refine ⟨cellsL_length l, cellsL_one l, ?_⟩
  rcases h.2 with rfl | ⟨b, o, rfl, hat⟩
  · cases a with
    | none => exact .inl ⟨rfl, rfl⟩
    | some ad => exact .inr ⟨ad, rfl, fun j u hu => by simp [cellsL] at hu⟩
  · refine .inr ⟨_, rfl, fun j u hu => ?_⟩
    have hj : j < l.length * 3 := by rw [← cellsL_length]; exact (List.getElem?_eq_some_iff.1 hu).1
    have hk : j / 3 < l.length := by omega
    obtain ⟨c1, c2, c3⟩ := cellsL_get l (j / 3) _ (List.getElem?_eq_getElem hk)
    obtain ⟨d1, d2, d3⟩ := hat (j / 3) _ (List.getElem?_eq_getElem hk)
    have hadd : (⟨b, o, none⟩ : Addr).add j = ⟨b, o + j, none⟩ := by unfold Addr.add; split <;> simp_all
    rw [hadd]
    rcases (by omega : j = j / 3 * 3 ∨ j = j / 3 * 3 + 1 ∨ j = j / 3 * 3 + 2) with e | e | e
    · rw [e] at hu ⊢; rw [c1] at hu; rw [← hu, d1]
    · rw [e] at hu ⊢; rw [c2] at hu; rw [← hu, ← Nat.add_assoc, d2]
    · rw [e] at hu ⊢; rw [c3] at hu; rw [← hu, ← Nat.add_assoc, d3]
theorem OwnE.source {w : World} {B : Nat} {v : Value} {l : List E} (h : OwnE w B v l) (hl : l.length ≤ 46912496118443) : ∃ a c, v = .slice a l.length c ∧ Rd w a l ∧ w.source 3 a l.length (cellsL l) := by
  obtain ⟨a, c, hv, hr⟩ := h.rd hl
  exact ⟨a, c, hv, hr, hr.source⟩
theorem OwnE.append {w : World} {B n : Nat} {v : Value} {l r : List E} (h : w.ownsRow B 32 3 v n (cellsL l ++ cellsL r)) (hn : n = l.length + r.length) : OwnE w B v (l ++ r) := by
  subst hn
  unfold OwnE
  rw [cellsL_append, List.length_append]
  exact h
theorem wfL_of_ok {l : List E} (h : ∀ x ∈ l, okB x = true) : wfL l := by
  intro x hx
  have := (okB_iff x).1 (h x hx)
  unfold E.wf
  omega



theorem guardE : Try.prog.eqGuardType Try.prog.depth 32 = false := by kernel_rfl
theorem heldE : Try.prog.stoodInHeld 32 = false := by kernel_rfl
theorem fieldsE : Try.prog.underlying 32 = some (.struct (Try.prog.fieldsOf 32)) := by kernel_rfl
theorem run_equalE (x y : E) (w : World) : (Op.equalIn 10000 32 (.agg #[.int .i64 x.a, .int .i64 x.n, .int .i64 x.s]) (.agg #[.int .i64 y.a, .int .i64 y.n, .int .i64 y.s])).run Try.prog w = .ok (eqE x y) w := by
  rw [run_equalIn_struct w 9999 32 _ _ fieldsE heldE]
  by_cases h1 : x.a = y.a <;> by_cases h2 : x.n = y.n <;> by_cases h3 : x.s = y.s <;>
    simp [Program.fieldsOf, Try.underlying32, Try.underlying3, Op.eqFields, go_sem, eqE, h1, h2, h3]
theorem run_neqE (x y : E) (w : World) (b : Bool) (hb : eqE x y = b) : (binOp .neq 32 (.agg #[.int .i64 x.a, .int .i64 x.n, .int .i64 x.s]) (.agg #[.int .i64 y.a, .int .i64 y.n, .int .i64 y.s])).run Try.prog w = .ok (.bool (!b)) w := by
  rw [run_neq_struct, run_equalE, hb]; rfl
theorem run_guardE (op : BinOp) (u v : Operand) (x y : E) (w : World) : (eqGuard op 32 u v (.agg #[.int .i64 x.a, .int .i64 x.n, .int .i64 x.s]) (.agg #[.int .i64 y.a, .int .i64 y.n, .int .i64 y.s])).run Try.prog w = .ok () w :=
  run_eqGuard_agg w op 32 u v _ _ guardE
set_option maxHeartbeats 400000 in
theorem same_any (l r : List E) (a b : Option Addr) (c d : Nat) (w : World) (hl : Rd w a l) (hr : Rd w b r) :
    Calls Try.prog 13 #[.slice a l.length c, .slice b r.length d] w fun e w' => e = .returned (.bool (sameB l r)) ∧ Below w.heap.size w w' := by
  have hl1 := hl.1
  have hr1 := hr.1
  by_cases hlen : l.length = r.length
  · have hb : ((l.length : Int) == (r.length : Int)) = true := by simp [hlen]
    have hb2 : ((l.length : Int) != (r.length : Int)) = false := by simp [hlen]
    have HL := Lib.hid hlen
    clear hlen
    go_enter Try.func13, Try.ntmps13
    go_wp2
    go_loopw [5] (fun i wr => ∃ k : Nat, k ≤ l.length ∧ i = .int .i64 k ∧ l.take k = r.take k ∧ Below w.heap.size w wr) (fun i _ => l.length - (intOf i).toNat)
    case atStart => exact ⟨0, Nat.zero_le _, rfl, by simp, Below.refl _ _⟩
    case round =>
      obtain ⟨k, hk, rfl, hv, hB⟩ := hrel
      by_cases hlt : k < l.length
      · have hlt2 : k < r.length := by rw [← HL.out]; exact hlt
        obtain ⟨b1, o1, rfl, hat1⟩ := (hl.keep hB).at (by omega)
        obtain ⟨b2, o2, rfl, hat2⟩ := (hr.keep hB).at (by omega)
        obtain ⟨h1, h2, h3⟩ := hat1 k _ (List.getElem?_eq_getElem hlt)
        obtain ⟨g1, g2, g3⟩ := hat2 k _ (List.getElem?_eq_getElem hlt2)
        have hv0 := hv
        clear hat1 hat2 hl hr hv
        have HT := Lib.hid (fun h : eqE l[k] r[k] = true => show l.take (k + 1) = r.take (k + 1) by
          rw [List.take_succ_eq_append_getElem hlt, List.take_succ_eq_append_getElem hlt2, hv0, (eqE_iff _ _).1 h])
        have HF := Lib.hid (fun h : eqE l[k] r[k] = false => show sameB l r = false by
          cases hs : sameB l r with
          | false => rfl
          | true =>
            have e := (sameB_iff _ _).1 hs
            subst e
            have := (eqE_iff l[k] l[k]).2 rfl
            rw [this] at h
            cases h)
        generalize l[k] = x at *
        generalize r[k] = y at *
        cases hq : eqE x y
        all_goals
          have HQ := Lib.hid hq
          have hne := fun w => run_neqE x y w _ hq
          have hgd := fun op u v w => run_guardE op u v x y w
          clear hq hv0
          go_wp2_with fail
          refine wpr ?_
          repeat (go_big_quiet_step (fail))
          refine wqn fun nq => ?_
          clear hne hgd
          go_wp2_with fail
        · go_ret
          exact ⟨ret_bool (by simp [HF.out HQ.out]), hB.onNext _⟩
        · go_roundw
          case rel => exact ⟨k + 1, by omega, by go_num, HT.out HQ.out, hB.onNext _⟩
          case measure => simp [intOf]; omega
      · have HV := Lib.hid hv
        clear hv
        go_wp2
        go_ret
        refine ⟨ret_bool ?_, hB⟩
        have := HV.out
        rw [List.take_of_length_le (by omega), List.take_of_length_le (by rw [← HL.out]; omega)] at this
        rw [this, sameB_refl]
  · have hb2 : ((l.length : Int) != (r.length : Int)) = true := by simp; omega
    have HF : Hid (sameB l r = false) := by
      cases hs : sameB l r with
      | false => exact rfl
      | true => exact absurd (congrArg List.length ((sameB_iff _ _).1 hs)) hlen
    clear hlen
    go_enter Try.func13, Try.ntmps13
    go_wp2
    go_ret
    exact ⟨ret_bool (by simp [HF.out]), Below.refl _ _⟩
theorem same_is (l r : List E) (a b : Option Addr) (c d : Nat) (v : Bool) (w : World) (hv : sameB l r = v) (hl : Rd w a l) (hr : Rd w b r) :
    Calls Try.prog 13 #[.slice a l.length c, .slice b r.length d] w fun e w' => e = .returned (.bool v) ∧ Below w.heap.size w w' := by
  subst hv
  exact same_any l r a b c d w hl hr


end Go.Proofs.Ytnfaciageadlkaa

namespace Go.Proofs.Ytnfaciageadlkaa
set_option linter.unusedSimpArgs false
set_option linter.unusedVariables false
set_option maxRecDepth 100000
open Go.RowKit

/-- A literal list, as the block that holds it. -/
theorem OwnE.lit (W : World) (cs : Array Value) (l : List E) (h : cs.toList = cellsL l) (hl : l.length ≤ maxLen) (B : Nat) (hB : B ≤ W.heap.size) : OwnE (W.alloc (.cells cs 32)) B (.slice (some ⟨W.heap.size, 0, none⟩) l.length l.length) l := by
  unfold OwnE
  rw [← h]
  exact World.ownsRow_lit W cs l.length hB hl (by have := congrArg List.length h; rw [cellsL_length] at this; simpa using this)
theorem Rd.lit (W : World) (cs : Array Value) (l : List E) (n : Nat) (hn : n = W.heap.size) (h : cs.toList = cellsL l) (hl : l.length ≤ 46912496118443) : Rd (W.alloc (.cells cs 32)) (some ⟨n, 0, none⟩) l := by
  subst hn
  obtain ⟨a, c, hv, hr⟩ := (OwnE.lit W cs l h (by unfold maxLen; omega) W.heap.size (Nat.le_refl _)).rd hl
  simp only [Value.slice.injEq] at hv
  rw [hv.1]
  exact hr


end Go.Proofs.Ytnfaciageadlkaa
