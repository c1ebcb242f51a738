/-
  Steps of a drawn region taken by hand: the kit's laws with their side facts paid by themselves.
  Conditions: as each theorem says.
-/
import Derived.Deep.RegionHeld3
import Derived.StillTailTactics
namespace Go.Proofs.Ytnfaciageadlkaa
set_option linter.unusedSimpArgs false
set_option linter.unusedVariables false
set_option maxRecDepth 100000

/-- A store into a literal row of slots. -/
theorem sp : (∀ {α : Type} (l : List α) (i : Nat) (x : α), l.toArray.setIfInBounds i x = (l.set i x).toArray) ∧ (∀ {α : Type} (x y : α) (l : List α), (y :: l).set 0 x = x :: l) ∧ (∀ {α : Type} (x y : α) (i : Nat) (l : List α), (y :: l).set (i + 1) x = y :: l.set i x) :=
  ⟨fun l i x => by simp, fun _ _ _ => rfl, fun _ _ _ _ => rfl⟩
theorem sg : (∀ {α : Type} (l : List α) (i : Nat) (h : i < l.toArray.size), l.toArray[i] = l[i]'(by simpa using h)) ∧ (∀ {α : Type} (y : α) (l : List α) (i : Nat) (h : i + 1 < (y :: l).length), (y :: l)[i + 1] = l[i]'(by simpa using h)) ∧ (∀ {α : Type} (y : α) (l : List α) (h : 0 < (y :: l).length), (y :: l)[0] = y) :=
  ⟨fun l i h => by simp, fun _ _ _ _ => rfl, fun _ _ _ => rfl⟩
section
variable {P : Program} {md : Region.Mode} {ops : Array Oper} {Q : Exit → Act → World → Prop} {S : World → Prop} {fuel : Nat} {listed : Array Bool} {a : Act} {w : World} {G : Prop}
/-- What a step asks of the region itself. -/
abbrev TkB (md : Region.Mode) (ops : Array Oper) (Q : Exit → Act → World → Prop) (listed : Array Bool) (i : Nat) (oi : Oper) (v : Value) : Prop :=
  Region.noSelect ops = true ∧ Region.free md ops listed i = true ∧ (Region.ready md ops listed).contains i = true ∧ ∀ c (a : Act) w, Q (.panic c) (a.put oi.dst v) w → Q (.panic c) a w
/-- A load, or what yields its value in every world that meets S. -/
theorem tk (i : Nat) {oi : Oper} {v : Value} (g : G) (hi : ops[i]? = some oi := by rfl) (hw : Region.wanted oi (yielded ops a.tmps) = true := by rfl)
    (y : ∀ w, S w → (execOp a.eval oi).run P w = .ok (.value v) w := by intro w hSw; (try dsimp only at hSw); go_simp; try with_reducible rfl)
    (k : G → wpAnyH P md ops Q S fuel (listed.setIfInBounds i true) (a.put oi.dst v) w := by intro g; (try simp only [Act.put, sp]); exact g)
    (b : TkB md ops Q listed i oi v := by exact ⟨by kernel_rfl, by kernel_rfl, by kernel_rfl, fun _ _ _ h => h⟩) (hS : S w := by assumption) : wpAnyH P md ops Q S (fuel + 1) listed a w :=
  wpAnyH_take hi b.1 b.2.1 b.2.2.1 b.2.2.2 (Or.inl ⟨hw, y⟩) hS (k g)
/-- The same where the value is said. -/
theorem tkv (i : Nat) (v : Value) {oi : Oper} (g : G) (hi : ops[i]? = some oi := by rfl) (hw : Region.wanted oi (yielded ops a.tmps) = true := by rfl)
    (y : ∀ w, S w → (execOp a.eval oi).run P w = .ok (.value v) w := by intro w hSw; (try dsimp only at hSw); go_simp)
    (k : G → wpAnyH P md ops Q S fuel (listed.setIfInBounds i true) (a.put oi.dst v) w := by intro g; (try simp only [Act.put, sg, sp]); exact g)
    (b : TkB md ops Q listed i oi v := by exact ⟨by kernel_rfl, by kernel_rfl, by kernel_rfl, fun _ _ _ h => h⟩) (hS : S w := by assumption) : wpAnyH P md ops Q S (fuel + 1) listed a w :=
  tk i g hi hw y k b hS
/-- An operation that is not wanted. -/
theorem tks (i : Nat) {oi : Oper} (g : G) (hi : ops[i]? = some oi := by rfl) (hw : Region.wanted oi (yielded ops a.tmps) = false := by rfl)
    (k : G → wpAnyH P md ops Q S fuel (listed.setIfInBounds i true) (a.put oi.dst undef) w := by intro g; (try simp only [Act.put, sg, sp]); exact g)
    (b : TkB md ops Q listed i oi undef := by exact ⟨by kernel_rfl, by kernel_rfl, by kernel_rfl, fun _ _ _ h => h⟩) (hS : S w := by assumption) : wpAnyH P md ops Q S (fuel + 1) listed a w :=
  wpAnyH_take hi b.1 b.2.1 b.2.2.1 b.2.2.2 (Or.inr ⟨hw, rfl⟩) hS (k g)
/-! The same where S is a structure of facts on cells: they are laid ahead. -/
theorem etk (i : Nat) {oi : Oper} {v : Value} (g : G) (hi : ops[i]? = some oi := by rfl) (hw : Region.wanted oi (yielded ops a.tmps) = true := by rfl)
    (y : ∀ w, S w → (execOp a.eval oi).run P w = .ok (.value v) w := by intro w hSw; have k0 := hSw.c0; have k1 := hSw.c1; have k2 := hSw.c2; have k3 := hSw.c3; have k4 := hSw.c4; have k5 := hSw.c5; have k6 := hSw.c6; have k7 := hSw.c7; have k8 := hSw.c8; simp only at k0 k1 k2 k3 k4 k5 k6 k7 k8; clear hSw; go_simp; try with_reducible rfl)
    (k : G → wpAnyH P md ops Q S fuel (listed.setIfInBounds i true) (a.put oi.dst v) w := by intro g; (try simp only [Act.put, sp]); exact g)
    (b : TkB md ops Q listed i oi v := by exact ⟨by kernel_rfl, by kernel_rfl, by kernel_rfl, fun _ _ _ h => h⟩) (hS : S w := by assumption) : wpAnyH P md ops Q S (fuel + 1) listed a w :=
  tk i g hi hw y k b hS
theorem ftk (i : Nat) {oi : Oper} {v : Value} (g : G) (hi : ops[i]? = some oi := by rfl) (hw : Region.wanted oi (yielded ops a.tmps) = true := by rfl)
    (y : ∀ w, S w → (execOp a.eval oi).run P w = .ok (.value v) w := by intro w hSw; have k0 := hSw.1.c0; have k1 := hSw.1.c1; have k2 := hSw.1.c2; have k3 := hSw.1.c3; have k4 := hSw.1.c4; have k5 := hSw.1.c5; have k6 := hSw.1.c6; have k7 := hSw.1.c7; have k8 := hSw.1.c8; have k9 := hSw.2.c0; have k10 := hSw.2.c1; have k11 := hSw.2.c2; simp only at k0 k1 k2 k3 k4 k5 k6 k7 k8 k9 k10 k11; clear hSw; go_simp; try with_reducible rfl)
    (k : G → wpAnyH P md ops Q S fuel (listed.setIfInBounds i true) (a.put oi.dst v) w := by intro g; (try simp only [Act.put, sp]); exact g)
    (b : TkB md ops Q listed i oi v := by exact ⟨by kernel_rfl, by kernel_rfl, by kernel_rfl, fun _ _ _ h => h⟩) (hS : S w := by assumption) : wpAnyH P md ops Q S (fuel + 1) listed a w :=
  tk i g hi hw y k b hS
theorem gtk (i : Nat) {oi : Oper} {v : Value} (g : G) (hi : ops[i]? = some oi := by rfl) (hw : Region.wanted oi (yielded ops a.tmps) = true := by rfl)
    (y : ∀ w, S w → (execOp a.eval oi).run P w = .ok (.value v) w := by intro w hSw; have k0 := hSw.c0; have k1 := hSw.c1; have k2 := hSw.c2; have k3 := hSw.c3; clear hSw; go_simp; try with_reducible rfl)
    (k : G → wpAnyH P md ops Q S fuel (listed.setIfInBounds i true) (a.put oi.dst v) w := by intro g; (try simp only [Act.put, sp]); exact g)
    (b : TkB md ops Q listed i oi v := by exact ⟨by kernel_rfl, by kernel_rfl, by kernel_rfl, fun _ _ _ h => h⟩) (hS : S w := by assumption) : wpAnyH P md ops Q S (fuel + 1) listed a w :=
  tk i g hi hw y k b hS
theorem rtk (i : Nat) {oi : Oper} {v : Value} (g : G) (hi : ops[i]? = some oi := by rfl) (hw : Region.wanted oi (yielded ops a.tmps) = true := by rfl)
    (y : ∀ w, S w → (execOp a.eval oi).run P w = .ok (.value v) w := by intro w hSw; have k0 := hSw.bx.c0; have k1 := hSw.bx.c1; have k2 := hSw.bx.c2; have k4 := hSw.cb.c4; have k6 := hSw.cb.c6; have k8 := hSw.cb.c8; simp only at k4 k6 k8; clear hSw; go_simp; try with_reducible rfl)
    (k : G → wpAnyH P md ops Q S fuel (listed.setIfInBounds i true) (a.put oi.dst v) w := by intro g; (try simp only [Act.put, sp]); exact g)
    (b : TkB md ops Q listed i oi v := by exact ⟨by kernel_rfl, by kernel_rfl, by kernel_rfl, fun _ _ _ h => h⟩) (hS : S w := by assumption) : wpAnyH P md ops Q S (fuel + 1) listed a w :=
  tk i g hi hw y k b hS
theorem ntk (i : Nat) {oi : Oper} {v : Value} (g : G) (hi : ops[i]? = some oi := by rfl) (hw : Region.wanted oi (yielded ops a.tmps) = true := by rfl)
    (y : ∀ w, S w → (execOp a.eval oi).run P w = .ok (.value v) w := by intro w hSw; have k0 := hSw.c0; have k1 := hSw.c1; clear hSw; go_simp; try with_reducible rfl)
    (k : G → wpAnyH P md ops Q S fuel (listed.setIfInBounds i true) (a.put oi.dst v) w := by intro g; (try simp only [Act.put, sp]); exact g)
    (b : TkB md ops Q listed i oi v := by exact ⟨by kernel_rfl, by kernel_rfl, by kernel_rfl, fun _ _ _ h => h⟩) (hS : S w := by assumption) : wpAnyH P md ops Q S (fuel + 1) listed a w :=
  tk i g hi hw y k b hS
theorem mtk (i : Nat) {oi : Oper} {v : Value} (g : G) (hi : ops[i]? = some oi := by rfl) (hw : Region.wanted oi (yielded ops a.tmps) = true := by rfl)
    (y : ∀ w, S w → (execOp a.eval oi).run P w = .ok (.value v) w := by intro w hSw; have k0 := hSw.1.c0; have k1 := hSw.1.c1; have k2 := hSw.1.c2; have k3 := hSw.1.c3; have k4 := hSw.2.c0; have k5 := hSw.2.c1; have k6 := hSw.2.c2; (try simp only at k4 k5 k6); clear hSw; go_simp; try with_reducible rfl)
    (k : G → wpAnyH P md ops Q S fuel (listed.setIfInBounds i true) (a.put oi.dst v) w := by intro g; (try simp only [Act.put, sp]); exact g)
    (b : TkB md ops Q listed i oi v := by exact ⟨by kernel_rfl, by kernel_rfl, by kernel_rfl, fun _ _ _ h => h⟩) (hS : S w := by assumption) : wpAnyH P md ops Q S (fuel + 1) listed a w :=
  tk i g hi hw y k b hS
theorem atk (i : Nat) {oi : Oper} {v : Value} (g : G) (hi : ops[i]? = some oi := by rfl) (hw : Region.wanted oi (yielded ops a.tmps) = true := by rfl)
    (y : ∀ w, S w → (execOp a.eval oi).run P w = .ok (.value v) w := by intro w hSw; have k0 := hSw.mb.c0; have k1 := hSw.mb.c1; have k2 := hSw.mb.c2; have k3 := hSw.mb.c3; clear hSw; (try simp only at k0 k1 k2 k3); go_simp; try with_reducible rfl)
    (k : G → wpAnyH P md ops Q S fuel (listed.setIfInBounds i true) (a.put oi.dst v) w := by intro g; (try simp only [Act.put, sp]); exact g)
    (b : TkB md ops Q listed i oi v := by exact ⟨by kernel_rfl, by kernel_rfl, by kernel_rfl, fun _ _ _ h => h⟩) (hS : S w := by assumption) : wpAnyH P md ops Q S (fuel + 1) listed a w :=
  tk i g hi hw y k b hS
/-- One operation comes next. -/
theorem rdy (i : Nat) {o : Oper} (h : ∀ K' : Act → World → Prop, Shut (∀ a w, S w → (S w → wpAnyH P md ops Q S fuel (listed.setIfInBounds i true) a w) → K' a w) → if Region.wanted o (yielded ops a.tmps) = true then Oper.wp P o a w K' Q else K' (a.put o.dst undef) w)
    (ho : ops[i]? = some o := by rfl) (hr : Region.ready md ops listed = [i] := by kernel_rfl) : wpAnyH P md ops Q S (fuel + 1) listed a w :=
  wpAnyH_ready hr (by simp) (AllReadyH.cons ho h AllReadyH.nil)
theorem rdy2 (i j : Nat) {o q : Oper} (h : ∀ K' : Act → World → Prop, Shut (∀ a w, S w → (S w → wpAnyH P md ops Q S fuel (listed.setIfInBounds i true) a w) → K' a w) → if Region.wanted o (yielded ops a.tmps) = true then Oper.wp P o a w K' Q else K' (a.put o.dst undef) w) (h' : ∀ K' : Act → World → Prop, Shut (∀ a w, S w → (S w → wpAnyH P md ops Q S fuel (listed.setIfInBounds j true) a w) → K' a w) → if Region.wanted q (yielded ops a.tmps) = true then Oper.wp P q a w K' Q else K' (a.put q.dst undef) w)
    (ho : ops[i]? = some o := by rfl) (hq : ops[j]? = some q := by rfl) (hr : Region.ready md ops listed = [i, j] := by kernel_rfl) : wpAnyH P md ops Q S (fuel + 1) listed a w :=
  wpAnyH_ready hr (by simp) (AllReadyH.cons ho h (AllReadyH.cons hq h' AllReadyH.nil))
theorem rdy3 (i j k : Nat) {o q r : Oper} (h : ∀ K' : Act → World → Prop, Shut (∀ a w, S w → (S w → wpAnyH P md ops Q S fuel (listed.setIfInBounds i true) a w) → K' a w) → if Region.wanted o (yielded ops a.tmps) = true then Oper.wp P o a w K' Q else K' (a.put o.dst undef) w) (h' : ∀ K' : Act → World → Prop, Shut (∀ a w, S w → (S w → wpAnyH P md ops Q S fuel (listed.setIfInBounds j true) a w) → K' a w) → if Region.wanted q (yielded ops a.tmps) = true then Oper.wp P q a w K' Q else K' (a.put q.dst undef) w) (h'' : ∀ K' : Act → World → Prop, Shut (∀ a w, S w → (S w → wpAnyH P md ops Q S fuel (listed.setIfInBounds k true) a w) → K' a w) → if Region.wanted r (yielded ops a.tmps) = true then Oper.wp P r a w K' Q else K' (a.put r.dst undef) w)
    (ho : ops[i]? = some o := by rfl) (hq : ops[j]? = some q := by rfl) (hk : ops[k]? = some r := by rfl) (hr : Region.ready md ops listed = [i, j, k] := by kernel_rfl) : wpAnyH P md ops Q S (fuel + 1) listed a w :=
  wpAnyH_ready hr (by simp) (AllReadyH.cons ho h (AllReadyH.cons hq h' (AllReadyH.cons hk h'' AllReadyH.nil)))
end
end Go.Proofs.Ytnfaciageadlkaa
