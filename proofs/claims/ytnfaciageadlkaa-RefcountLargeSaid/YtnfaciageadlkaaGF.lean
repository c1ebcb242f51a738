/-
  Rows of ints: what a call owns, and what it can read.
  package refcount: New, permitted, changed.
  package refcount: Total, Used, Of, Slots, Add, and the search of a negative count.
  Conditions: as each theorem says.
-/
import Derived.Test.YtnfaciageadlkaaGA
import Derived.Test.YtnfaciageadlkaaRuR
import Derived.Laws.CopyOwn
import Derived.Test.YtnfaciageadlkaaRuD
import Derived.Deep.CutRange
namespace Go.Proofs.Ytnfaciageadlkaa
set_option linter.unusedSimpArgs false
set_option linter.unusedVariables false
set_option maxRecDepth 100000
open Go.RowKit

theorem infoI : (Try.prog.info? 3).map (fun i => (i.zero, i.size, i.bytes)) = some (some (.int .i64 0), 1, 8) := by kernel_rfl
/-- Block b is a row of elements of this type. -/
def HasTy (w : World) (b : Nat) (t : TypeId) : Prop := ∃ cs s, w.heap[b]? = some (.cells cs t s)
theorem HasTy.keep {w w' : World} {b : Nat} {t : TypeId} (hb : Below w.heap.size w w') (h : HasTy w b t) : HasTy w' b t := by
  obtain ⟨cs, s, h⟩ := h
  exact ⟨cs, s, (hb.block b (Array.getElem?_eq_some_iff.1 h).1).trans h⟩
theorem HasTy.set {w : World} {b : Nat} {t : TypeId} (h : HasTy w b t) (p : Addr) (u : Value) : HasTy (w.setCell p u) b t := by
  obtain ⟨cs, s, h⟩ := h
  by_cases e : b = p.block
  · subst e
    obtain ⟨hlt, hk⟩ := Array.getElem?_eq_some_iff.1 h
    refine ⟨if p.spot.isSome then cs else cs.setIfInBounds p.off u, s, ?_⟩
    show (w.heap.modify p.block _)[p.block]? = _
    rw [Array.getElem?_eq_getElem (by rw [Array.size_modify]; exact hlt), Array.getElem_modify_self, hk]
  · exact ⟨cs, s, (Below.heap_setCell _ _ _ _ e).trans h⟩
theorem HasTy.ne {w : World} {b b' : Nat} {t t' : TypeId} (h : HasTy w b t) (h' : HasTy w b' t') (hne : t ≠ t') : b ≠ b' := fun e => by
  subst e
  obtain ⟨cs, s, h⟩ := h
  obtain ⟨cs', s', h'⟩ := h'
  rw [h] at h'
  injection h' with h'
  injection h' with _ h'
  exact hne h'
/-- The slice 'a, length' reads as the list of counts C. -/
def RdI (w : World) (a : Option Addr) (C : List Int) : Prop :=
  C.length ≤ 65536 ∧ (C = [] ∨ ∃ b o, a = some ⟨b, o, none⟩ ∧ HasTy w b 3 ∧ ∀ k x, C[k]? = some x → w.cell? ⟨b, o + k, none⟩ = some (.int .i64 x))
def OwnI (w : World) (B : Nat) (v : Value) (C : List Int) : Prop := w.ownsRow B 3 1 v C.length (C.map (Value.int .i64))
theorem RdI.keep {w w' : World} (h : Below w.heap.size w w') {a : Option Addr} {C : List Int} (hr : RdI w a C) : RdI w' a C :=
  ⟨hr.1, hr.2.imp id fun ⟨b, o, ha, ht, hat⟩ => ⟨b, o, ha, ht.keep h, fun k x hk => h.keep (hat k x hk)⟩⟩
theorem RdI.at {w : World} {a : Option Addr} {C : List Int} (hr : RdI w a C) (h : 0 < C.length) : ∃ b o, a = some ⟨b, o, none⟩ ∧ ∀ k x, C[k]? = some x → w.cell? ⟨b, o + k, none⟩ = some (.int .i64 x) := by
  obtain ⟨b, o, ha, _, hat⟩ := hr.2.resolve_left (by intro e; rw [e] at h; simp at h)
  exact ⟨b, o, ha, hat⟩
theorem OwnI.nil (w : World) (B : Nat) : OwnI w B (.slice none 0 0) [] := World.ownsRow_nil _ _ _ _
theorem OwnI.lt {w : World} {B : Nat} {v : Value} {C : List Int} (h : OwnI w B v C) : ∀ k, v.ownBlock = some k → B ≤ k ∧ k < w.heap.size := World.ownsRow.lt h
theorem OwnI.mono {w : World} {B B' : Nat} {v : Value} {C : List Int} (h : OwnI w B v C) (hB : B' ≤ B) : OwnI w B' v C :=
  ⟨h.1, h.2.imp id fun ⟨g, cap, cur, hv, hg, r⟩ => ⟨g, cap, cur, hv, Nat.le_trans hB hg, r⟩⟩
theorem OwnI.keep {w w' : World} {B : Nat} {v : Value} {C : List Int} (h : OwnI w B v C) (hb : Below w.heap.size w w') : OwnI w' B v C :=
  World.ownsRow.kept h (row := none) ⟨hb.os, hb.tape, hb.output, hb.size, fun k hk _ => hb.block k hk⟩ (by cases hv : v.ownBlock <;> simp)
theorem OwnI.other {w w' : World} {B : Nat} {v : Value} {C : List Int} {row : Option Nat} (h : OwnI w B v C) (hg : w.grownBy w' row) (hne : v.ownBlock = none ∨ v.ownBlock ≠ row) : OwnI w' B v C :=
  World.ownsRow.kept h hg hne
theorem OwnI.form {w : World} {B : Nat} {v : Value} {C : List Int} (h : OwnI w B v C) :
    (v = .slice none 0 0 ∧ C = []) ∨ ∃ g c, v = .slice (some ⟨g, 0, none⟩) C.length c ∧ B ≤ g ∧ g < w.heap.size ∧ C.length ≤ c ∧ c ≤ maxLen ∧ (∀ k x, C[k]? = some x → w.cell? ⟨g, k, none⟩ = some (.int .i64 x)) ∧ ∀ i, w.frozen? ⟨g, i, none⟩ = false := by
  rcases h.2 with ⟨rfl, hn⟩ | ⟨g, cap, cur, rfl, hb, hg, hn, hc, hs, ht⟩
  · exact .inl ⟨rfl, List.eq_nil_of_length_eq_zero hn⟩
  · refine .inr ⟨g, cap, rfl, hb, (Array.getElem?_eq_some_iff.1 hg).1, hn, hc, fun k x hk => ?_, fun i => World.ownsRow.frozenAt h i⟩
    have hk' : k < C.length := (List.getElem?_eq_some_iff.1 hk).1
    rw [World.ownsRow.cellAt (cap := cap) h k (by omega), List.getElem?_map, hk]
    rfl
theorem OwnI.cells {w : World} {B g c n : Nat} {C : List Int} (h : OwnI w B (.slice (some ⟨g, 0, none⟩) n c) C) : (∀ k x, C[k]? = some x → w.cell? ⟨g, k, none⟩ = some (.int .i64 x)) ∧ ∀ i, w.frozen? ⟨g, i, none⟩ = false := by
  rcases h.form with ⟨h, _⟩ | ⟨g', cc, h, _, _, _, _, hat, hf⟩
  · cases h
  · injection h with h
    injection h with h
    injection h with h
    subst h
    exact ⟨hat, hf⟩
theorem OwnI.rd {w : World} {B : Nat} {v : Value} {C : List Int} (h : OwnI w B v C) (hl : C.length ≤ 65536) : ∃ a c, v = .slice a C.length c ∧ RdI w a C := by
  rcases h.form with ⟨rfl, rfl⟩ | ⟨g, c, rfl, _, _, _, _, hat, _⟩
  · exact ⟨_, _, rfl, by simp, .inl rfl⟩
  · refine ⟨_, _, rfl, hl, .inr ⟨g, 0, rfl, ?_, fun k x hk => by rw [Nat.zero_add]; exact hat k x hk⟩⟩
    rcases h.2 with ⟨h, _⟩ | ⟨g', cap, cur, h, _, hg, _⟩
    · cases h
    · injection h with h
      injection h with h
      injection h with h
      subst h
      exact ⟨_, _, hg⟩
theorem OwnI.set {w : World} {B g c n : Nat} {C : List Int} (hn : n = C.length) (h : OwnI w B (.slice (some ⟨g, 0, none⟩) n c) C) (k : Nat) (x : Int) :
    OwnI (w.setCell ⟨g, k, none⟩ (.int .i64 x)) B (.slice (some ⟨g, 0, none⟩) n c) (C.set k x) ∧ w.grownBy (w.setCell ⟨g, k, none⟩ (.int .i64 x)) (some g) := by
  subst hn
  obtain ⟨s1, g1⟩ := World.ownsRow.stored h k (.int .i64 x)
  refine ⟨?_, g1⟩
  unfold OwnI
  rw [List.length_set, List.map_set]
  exact s1
theorem made_ints (n : Nat) : (madeCells (Value.int .i64 0).cells (n * 1)).toList = (List.replicate n (0 : Int)).map (Value.int .i64) := by
  apply List.ext_getElem
  · simp [madeCells]
  · intro i h1 h2
    simp [madeCells, Value.cells, Nat.mod_one]
/-- A row out of make. -/
theorem OwnI.made {w : World} {B : Nat} {v : Value} {n : Nat} (h : w.ownsRow B 3 1 v n (madeCells (Value.int .i64 0).cells (n * 1)).toList) : OwnI w B v (List.replicate n 0) := by
  unfold OwnI
  rw [List.length_replicate, ← made_ints]
  exact h
theorem grown_below {w w' : World} (h : w.grownBy w' none) : Below w.heap.size w w' := ⟨h.os, h.tape, h.output, h.size, fun k hk => h.block k hk (by simp)⟩
theorem grown_setCell (w : World) (a : Addr) (u : Value) : w.grownBy (w.setCell a u) (some a.block) :=
  ⟨rfl, rfl, rfl, by simp [World.setCell], fun k hk hne => Below.heap_setCell _ _ _ _ (fun e => hne (by rw [e]))⟩
theorem OwnI.away {w : World} {B : Nat} {v : Value} {C : List Int} (h : OwnI w B v C) (a : Addr) (u : Value) (hne : v.ownBlock ≠ some a.block) : OwnI (w.setCell a u) B v C :=
  h.other (grown_setCell w a u) (.inr hne)
theorem OwnE.away {w : World} {B : Nat} {v : Value} {l : List E} (h : OwnE w B v l) (a : Addr) (u : Value) (hne : v.ownBlock ≠ some a.block) : OwnE (w.setCell a u) B v l :=
  h.other (grown_setCell w a u) (.inr hne)
theorem grown_free {w w' : World} {row : Option Nat} (hg : w.grownBy w' row) {a : Addr} {v : Value} (hc : w.cell? a = some v) {b : Bool} (hf : w.frozen? a = b) (hne : some a.block ≠ row) : w'.frozen? a = b := by
  rw [World.frozen?_of_block (hg.block a.block (World.block_lt_of_cell? w a hc) hne)]; exact hf
theorem addR_step (D : List Int) (s p : Nat) (d : Int) (h : s ≤ p) (hp : p < D.length) : addR D s d (p + 1 - s) = (addR D s d (p - s)).set p ((addR D s d (p - s)).getD p 0 + d) := by
  rw [show p + 1 - s = (p - s) + 1 by omega]
  simp only [addR]
  rw [show s + (p - s) = p by omega]
theorem getD_some (D : List Int) (p : Nat) (hp : p < D.length) : D[p]? = some (D.getD p 0) := by
  rw [List.getD_eq_getElem?_getD, List.getElem?_eq_getElem hp]; rfl
theorem RdI.source {w : World} {a : Option Addr} {C : List Int} (h : RdI w a C) : w.source 1 a C.length (C.map (Value.int .i64)) := by
  refine ⟨by simp, fun u hu => by obtain ⟨x, _, rfl⟩ := List.mem_map.1 hu; rfl, ?_⟩
  rcases h.2 with rfl | ⟨b, o, rfl, _, hat⟩
  · cases a with
    | none => exact .inl ⟨rfl, rfl⟩
    | some ad => exact .inr ⟨ad, rfl, fun j u hu => by simp at hu⟩
  · refine .inr ⟨_, rfl, fun j u hu => ?_⟩
    rw [List.getElem?_map] at hu
    obtain ⟨x, hx, rfl⟩ := Option.map_eq_some_iff.1 hu
    have := hat j x hx
    by_cases hj0 : j = 0
    · subst hj0; simpa [Addr.add] using this
    · simpa [Addr.add, hj0] using this
theorem OwnI.empty (w : World) (B : Nat) (hB : B ≤ w.heap.size) : OwnI (w.alloc (.cells #[] 3)) B (.slice (some ⟨w.heap.size, 0, none⟩) 0 0) [] :=
  World.ownsRow_lit w #[] 0 hB (by simp) rfl
theorem OwnI.append {w : World} {B n : Nat} {v : Value} {C D : List Int} (h : w.ownsRow B 3 1 v n (C.map (Value.int .i64) ++ D.map (Value.int .i64))) (hn : n = C.length + D.length) : OwnI w B v (C ++ D) := by
  subst hn
  unfold OwnI
  rw [List.map_append, List.length_append]
  exact h
theorem OwnE.rd' {w : World} {B : Nat} {a : Option Addr} {n c : Nat} {l : List E} (h : OwnE w B (.slice a n c) l) (hl : l.length ≤ 46912496118443) : Rd w a l := by
  obtain ⟨a', c', he, hr⟩ := h.rd hl
  injection he with he
  rw [he]
  exact hr
/-- make([]int, n). -/
theorem wpList_make_I (w : World) {ops : Array Oper} {rest : List Oper} {o : Oper} {a : Act} {Q : Exit → Act → World → Prop}
    (hg : o.guard = none) (l c : Operand) (t : TypeId) (hop : o.op = Op.makeSlice t l c) (h1 : Try.prog.underlying t = some (.slice 3)) (kl kc : IntKind) (n : Nat) (hl : a.eval l = .int kl n) (hc : a.eval c = .int kc n) (hn : n ≤ 65536) (B G : Nat) (hG : w.heap.size = G) (hB : B ≤ G)
    (hK : ∀ w', OwnI w' B (.slice (some ⟨G, 0, none⟩) n n) (List.replicate n 0) → Below w.heap.size w w' → G < w'.heap.size → wpList Try.prog ops Q rest (a.put o.dst (.slice (some ⟨G, 0, none⟩) n n)) w') :
    wpList Try.prog ops Q (o :: rest) a w := by
  subst hG
  obtain ⟨i0, hi, hz0, hz1, hz2⟩ := info_parts infoI
  refine wpList_make_full w hg l c t hop B 3 i0 (.int .i64 0) 1 h1 hi hz0 hz1 kl kc n n n hl hc rfl rfl (by rw [hz2]; omega) (by unfold maxLen; omega) hB fun w' ho hgr => ?_
  refine hK w' (OwnI.made ho) (grown_below hgr) ?_
  rcases ho.2 with ⟨h, _⟩ | ⟨g, cap, cur, h, _, hgg, _⟩
  · cases h
  · injection h with h
    injection h with h
    injection h with h
    subst h
    exact (Array.getElem?_eq_some_iff.1 hgg).1
/-- copy of all counts into a row of the call's own. -/
theorem wpList_copy_I (w : World) {ops : Array Oper} {rest : List Oper} {o : Oper} {a : Act} {Q : Exit → Act → World → Prop}
    (hgd : o.guard = none) (d s : Operand) (dT sT : TypeId) (ho : o.op = .call { callee := .builtin .copy, args := #[d, s], argTypes := #[dT, sT] }) (hu : Try.prog.underlying dT = some (.slice 3))
    (B g n cap : Nat) (D C : List Int) (sp : Option Addr) (sc : Nat) (hd : a.eval d = .slice (some ⟨g, 0, none⟩) n cap) (hs : a.eval s = .slice sp n sc) (hown : OwnI w B (.slice (some ⟨g, 0, none⟩) n cap) D) (hD : D.length = n) (hC : C.length = n) (hr : RdI w sp C)
    (h : ∀ w', OwnI w' B (.slice (some ⟨g, 0, none⟩) n cap) C → w.grownBy w' (some g) → wpList Try.prog ops Q rest (a.put o.dst (goInt n)) w') :
    wpList Try.prog ops Q (o :: rest) a w := by
  have hsz : (Try.prog.info? 3).map (·.size) = some 1 := by kernel_rfl
  subst hC
  by_cases h0 : C.length = 0
  · refine wpList_copy_nothing hgd d s dT sT ho 3 hu hsz _ _ _ _ _ _ hd hs (by simp [h0]) ?_
    obtain rfl : C = [] := List.eq_nil_of_length_eq_zero h0
    obtain rfl : D = [] := List.eq_nil_of_length_eq_zero hD
    exact h w hown ⟨rfl, rfl, rfl, Nat.le_refl _, fun _ _ _ => rfl⟩
  · obtain ⟨b, off, rfl, hat⟩ := hr.at (by omega)
    rcases hown.2 with ⟨hv, _⟩ | ⟨g', cap', cur, hv, hbg, hg, hnc, hcm, hcs, htake⟩
    · cases hv
    · injection hv with e1 e2 e3
      injection e1 with e1
      injection e1 with e1
      subst e1 e3
      refine wpList_copy_own hgd d s dT sT ho 3 hu hsz g 0 _ _ ⟨b, off, none⟩ _ _ hd hs cur 3 hg (C.map (Value.int .i64)) (by simp) (fun j v hj => ?_) (by rw [List.length_map]; omega) (fun v hv => ?_) ?_
      · rw [List.getElem?_map] at hj
        obtain ⟨x, hx, rfl⟩ := Option.map_eq_some_iff.1 hj
        have := hat j x hx
        by_cases hj0 : j = 0
        · subst hj0; simpa [Addr.add] using this
        · simpa [Addr.add, hj0] using this
      · obtain ⟨x, _, rfl⟩ := List.mem_map.1 hv
        rfl
      · rw [List.length_map]
        refine h _ ⟨by simp, .inr ⟨g, cap, _, rfl, hbg, setRow_heap w g _ _ _ _ hg, by omega, hcm, ?_, ?_⟩⟩ ⟨rfl, rfl, rfl, by simp [World.setRow], fun k _ hk => setRow_other w g k _ (fun e => hk (by simp [e]))⟩
        · simp; omega
        · simp

/-! ### Rows of bools -/
theorem infoM : (Try.prog.info? 4).map (fun i => (i.zero, i.size, i.bytes)) = some (some (.bool false), 1, 1) := by kernel_rfl
/-- The same for rows of bools. -/
def RdM (w : World) (a : Option Addr) (C : List Bool) : Prop :=
  C.length ≤ 65536 ∧ (C = [] ∨ ∃ b o, a = some ⟨b, o, none⟩ ∧ ∀ k x, C[k]? = some x → w.cell? ⟨b, o + k, none⟩ = some (.bool x))
def OwnM (w : World) (B : Nat) (v : Value) (C : List Bool) : Prop := w.ownsRow B 4 1 v C.length (C.map (Value.bool))
theorem RdM.keep {w w' : World} (h : Below w.heap.size w w') {a : Option Addr} {C : List Bool} (hr : RdM w a C) : RdM w' a C :=
  ⟨hr.1, hr.2.imp id fun ⟨b, o, ha, hat⟩ => ⟨b, o, ha, fun k x hk => h.keep (hat k x hk)⟩⟩
theorem RdM.at {w : World} {a : Option Addr} {C : List Bool} (hr : RdM w a C) (h : 0 < C.length) : ∃ b o, a = some ⟨b, o, none⟩ ∧ ∀ k x, C[k]? = some x → w.cell? ⟨b, o + k, none⟩ = some (.bool x) :=
  hr.2.resolve_left (by intro e; rw [e] at h; simp at h)
theorem OwnM.nil (w : World) (B : Nat) : OwnM w B (.slice none 0 0) [] := World.ownsRow_nil _ _ _ _
theorem OwnM.lt {w : World} {B : Nat} {v : Value} {C : List Bool} (h : OwnM w B v C) : ∀ k, v.ownBlock = some k → B ≤ k ∧ k < w.heap.size := World.ownsRow.lt h
theorem OwnM.mono {w : World} {B B' : Nat} {v : Value} {C : List Bool} (h : OwnM w B v C) (hB : B' ≤ B) : OwnM w B' v C :=
  ⟨h.1, h.2.imp id fun ⟨g, cap, cur, hv, hg, r⟩ => ⟨g, cap, cur, hv, Nat.le_trans hB hg, r⟩⟩
theorem OwnM.keep {w w' : World} {B : Nat} {v : Value} {C : List Bool} (h : OwnM w B v C) (hb : Below w.heap.size w w') : OwnM w' B v C :=
  World.ownsRow.kept h (row := none) ⟨hb.os, hb.tape, hb.output, hb.size, fun k hk _ => hb.block k hk⟩ (by cases hv : v.ownBlock <;> simp)
theorem OwnM.other {w w' : World} {B : Nat} {v : Value} {C : List Bool} {row : Option Nat} (h : OwnM w B v C) (hg : w.grownBy w' row) (hne : v.ownBlock = none ∨ v.ownBlock ≠ row) : OwnM w' B v C :=
  World.ownsRow.kept h hg hne
theorem OwnM.form {w : World} {B : Nat} {v : Value} {C : List Bool} (h : OwnM w B v C) :
    (v = .slice none 0 0 ∧ C = []) ∨ ∃ g c, v = .slice (some ⟨g, 0, none⟩) C.length c ∧ B ≤ g ∧ g < w.heap.size ∧ C.length ≤ c ∧ c ≤ maxLen ∧ (∀ k x, C[k]? = some x → w.cell? ⟨g, k, none⟩ = some (.bool x)) ∧ ∀ i, w.frozen? ⟨g, i, none⟩ = false := by
  rcases h.2 with ⟨rfl, hn⟩ | ⟨g, cap, cur, rfl, hb, hg, hn, hc, hs, ht⟩
  · exact .inl ⟨rfl, List.eq_nil_of_length_eq_zero hn⟩
  · refine .inr ⟨g, cap, rfl, hb, (Array.getElem?_eq_some_iff.1 hg).1, hn, hc, fun k x hk => ?_, fun i => World.ownsRow.frozenAt h i⟩
    have hk' : k < C.length := (List.getElem?_eq_some_iff.1 hk).1
    rw [World.ownsRow.cellAt (cap := cap) h k (by omega), List.getElem?_map, hk]
    rfl
theorem OwnM.cells {w : World} {B g c n : Nat} {C : List Bool} (h : OwnM w B (.slice (some ⟨g, 0, none⟩) n c) C) : (∀ k x, C[k]? = some x → w.cell? ⟨g, k, none⟩ = some (.bool x)) ∧ ∀ i, w.frozen? ⟨g, i, none⟩ = false := by
  rcases h.form with ⟨h, _⟩ | ⟨g', cc, h, _, _, _, _, hat, hf⟩
  · cases h
  · injection h with h
    injection h with h
    injection h with h
    subst h
    exact ⟨hat, hf⟩
theorem OwnM.rd {w : World} {B : Nat} {v : Value} {C : List Bool} (h : OwnM w B v C) (hl : C.length ≤ 65536) : ∃ a c, v = .slice a C.length c ∧ RdM w a C := by
  rcases h.form with ⟨rfl, rfl⟩ | ⟨g, c, rfl, _, _, _, _, hat, _⟩
  · exact ⟨_, _, rfl, by simp, .inl rfl⟩
  · exact ⟨_, _, rfl, hl, .inr ⟨g, 0, rfl, fun k x hk => by rw [Nat.zero_add]; exact hat k x hk⟩⟩
theorem OwnM.set {w : World} {B g c n : Nat} {C : List Bool} (hn : n = C.length) (h : OwnM w B (.slice (some ⟨g, 0, none⟩) n c) C) (k : Nat) (x : Bool) :
    OwnM (w.setCell ⟨g, k, none⟩ (.bool x)) B (.slice (some ⟨g, 0, none⟩) n c) (C.set k x) ∧ w.grownBy (w.setCell ⟨g, k, none⟩ (.bool x)) (some g) := by
  subst hn
  obtain ⟨s1, g1⟩ := World.ownsRow.stored h k (.bool x)
  refine ⟨?_, g1⟩
  unfold OwnM
  rw [List.length_set, List.map_set]
  exact s1
theorem made_bools (n : Nat) : (madeCells (Value.bool false).cells (n * 1)).toList = (List.replicate n false).map (Value.bool) := by
  apply List.ext_getElem
  · simp [madeCells]
  · intro i h1 h2
    simp [madeCells, Value.cells, Nat.mod_one]
/-- A row out of make. -/
theorem OwnM.made {w : World} {B : Nat} {v : Value} {n : Nat} (h : w.ownsRow B 4 1 v n (madeCells (Value.bool false).cells (n * 1)).toList) : OwnM w B v (List.replicate n false) := by
  unfold OwnM
  rw [List.length_replicate, ← made_bools]
  exact h
theorem OwnM.away {w : World} {B : Nat} {v : Value} {C : List Bool} (h : OwnM w B v C) (a : Addr) (u : Value) (hne : v.ownBlock ≠ some a.block) : OwnM (w.setCell a u) B v C :=
  h.other (grown_setCell w a u) (.inr hne)
theorem getD_someM (D : List Bool) (p : Nat) (hp : p < D.length) : D[p]? = some (D.getD p false) := by
  rw [List.getD_eq_getElem?_getD, List.getElem?_eq_getElem hp]; rfl
/-- make([]int, n). -/
theorem wpList_make_M (w : World) {ops : Array Oper} {rest : List Oper} {o : Oper} {a : Act} {Q : Exit → Act → World → Prop}
    (hg : o.guard = none) (l c : Operand) (t : TypeId) (hop : o.op = Op.makeSlice t l c) (h1 : Try.prog.underlying t = some (.slice 4)) (kl kc : IntKind) (n : Nat) (hl : a.eval l = .int kl n) (hc : a.eval c = .int kc n) (hn : n ≤ 65536) (B G : Nat) (hG : w.heap.size = G) (hB : B ≤ G)
    (hK : ∀ w', OwnM w' B (.slice (some ⟨G, 0, none⟩) n n) (List.replicate n false) → Below w.heap.size w w' → G < w'.heap.size → wpList Try.prog ops Q rest (a.put o.dst (.slice (some ⟨G, 0, none⟩) n n)) w') :
    wpList Try.prog ops Q (o :: rest) a w := by
  subst hG
  obtain ⟨i0, hi, hz0, hz1, hz2⟩ := info_parts infoM
  refine wpList_make_full w hg l c t hop B 4 i0 (.bool false) 1 h1 hi hz0 hz1 kl kc n n n hl hc rfl rfl (by rw [hz2]; omega) (by unfold maxLen; omega) hB fun w' ho hgr => ?_
  refine hK w' (OwnM.made ho) (grown_below hgr) ?_
  rcases ho.2 with ⟨h, _⟩ | ⟨g, cap, cur, h, _, hgg, _⟩
  · cases h
  · injection h with h
    injection h with h
    injection h with h
    subst h
    exact (Array.getElem?_eq_some_iff.1 hgg).1
/-- copy of all counts into a row of the call's own. -/
theorem wpList_copy_M (w : World) {ops : Array Oper} {rest : List Oper} {o : Oper} {a : Act} {Q : Exit → Act → World → Prop}
    (hgd : o.guard = none) (d s : Operand) (dT sT : TypeId) (ho : o.op = .call { callee := .builtin .copy, args := #[d, s], argTypes := #[dT, sT] }) (hu : Try.prog.underlying dT = some (.slice 4))
    (B g n cap : Nat) (D C : List Bool) (sp : Option Addr) (sc : Nat) (hd : a.eval d = .slice (some ⟨g, 0, none⟩) n cap) (hs : a.eval s = .slice sp n sc) (hown : OwnM w B (.slice (some ⟨g, 0, none⟩) n cap) D) (hD : D.length = n) (hC : C.length = n) (hr : RdM w sp C)
    (h : ∀ w', OwnM w' B (.slice (some ⟨g, 0, none⟩) n cap) C → w.grownBy w' (some g) → wpList Try.prog ops Q rest (a.put o.dst (goInt n)) w') :
    wpList Try.prog ops Q (o :: rest) a w := by
  have hsz : (Try.prog.info? 4).map (·.size) = some 1 := by kernel_rfl
  subst hC
  by_cases h0 : C.length = 0
  · refine wpList_copy_nothing hgd d s dT sT ho 4 hu hsz _ _ _ _ _ _ hd hs (by simp [h0]) ?_
    obtain rfl : C = [] := List.eq_nil_of_length_eq_zero h0
    obtain rfl : D = [] := List.eq_nil_of_length_eq_zero hD
    exact h w hown ⟨rfl, rfl, rfl, Nat.le_refl _, fun _ _ _ => rfl⟩
  · obtain ⟨b, off, rfl, hat⟩ := hr.at (by omega)
    rcases hown.2 with ⟨hv, _⟩ | ⟨g', cap', cur, hv, hbg, hg, hnc, hcm, hcs, htake⟩
    · cases hv
    · injection hv with e1 e2 e3
      injection e1 with e1
      injection e1 with e1
      subst e1 e3
      refine wpList_copy_own hgd d s dT sT ho 4 hu hsz g 0 _ _ ⟨b, off, none⟩ _ _ hd hs cur 4 hg (C.map (Value.bool)) (by simp) (fun j v hj => ?_) (by rw [List.length_map]; omega) (fun v hv => ?_) ?_
      · rw [List.getElem?_map] at hj
        obtain ⟨x, hx, rfl⟩ := Option.map_eq_some_iff.1 hj
        have := hat j x hx
        by_cases hj0 : j = 0
        · subst hj0; simpa [Addr.add] using this
        · simpa [Addr.add, hj0] using this
      · obtain ⟨x, _, rfl⟩ := List.mem_map.1 hv
        rfl
      · rw [List.length_map]
        refine h _ ⟨by simp, .inr ⟨g, cap, _, rfl, hbg, setRow_heap w g _ _ _ _ hg, by omega, hcm, ?_, ?_⟩⟩ ⟨rfl, rfl, rfl, by simp [World.setRow], fun k _ hk => setRow_other w g k _ (fun e => hk (by simp [e]))⟩
        · simp; omega
        · simp
theorem RdM.source {w : World} {a : Option Addr} {C : List Bool} (h : RdM w a C) : w.source 1 a C.length (C.map (Value.bool)) := by
  refine ⟨by simp, fun u hu => by obtain ⟨x, _, rfl⟩ := List.mem_map.1 hu; rfl, ?_⟩
  rcases h.2 with rfl | ⟨b, o, rfl, hat⟩
  · cases a with
    | none => exact .inl ⟨rfl, rfl⟩
    | some ad => exact .inr ⟨ad, rfl, fun j u hu => by simp at hu⟩
  · refine .inr ⟨_, rfl, fun j u hu => ?_⟩
    rw [List.getElem?_map] at hu
    obtain ⟨x, hx, rfl⟩ := Option.map_eq_some_iff.1 hu
    have := hat j x hx
    by_cases hj0 : j = 0
    · subst hj0; simpa [Addr.add] using this
    · simpa [Addr.add, hj0] using this
theorem OwnM.empty (w : World) (B : Nat) (hB : B ≤ w.heap.size) : OwnM (w.alloc (.cells #[] 4)) B (.slice (some ⟨w.heap.size, 0, none⟩) 0 0) [] :=
  World.ownsRow_lit w #[] 0 hB (by simp) rfl
theorem OwnM.append {w : World} {B n : Nat} {v : Value} {C D : List Bool} (h : w.ownsRow B 4 1 v n (C.map (Value.bool) ++ D.map (Value.bool))) (hn : n = C.length + D.length) : OwnM w B v (C ++ D) := by
  subst hn
  unfold OwnM
  rw [List.map_append, List.length_append]
  exact h
end Go.Proofs.Ytnfaciageadlkaa

namespace Go.Proofs.Ytnfaciageadlkaa
set_option linter.unusedSimpArgs false
set_option linter.unusedVariables false
set_option maxRecDepth 100000
open Go.RowKit

set_option maxRecDepth 100000 in
set_option maxHeartbeats 1000000 in
theorem new_yes (n : Nat) (w : World) (hn : n ≤ 65536) :
    Calls Try.prog 5 #[.int .i64 n] w fun e w' => ∃ v, e = .returned (.tuple #[.agg #[v], .int .i64 0]) ∧ OwnI w' w.heap.size v (List.replicate n 0) ∧ Below w.heap.size w w' := by
  go_enter Try.func5, Try.ntmps5
  go_wp2_with ((at_make; refine wpList_make_I _ rfl _ _ 25 rfl Try.underlying25 _ _ n rfl rfl (by omega) w.heap.size (w.heap.size + 1) (by simp) (by omega) ?_; intro w1 ho1 hb1 hz1; have hc := hb1.keep (a := ⟨w.heap.size, 0, none⟩) (by simp; rfl); have hf := hb1.keepF (a := ⟨w.heap.size, 0, none⟩) (by simp; rfl) (b := false) (by simp)))
  refine bodyPost_ret (v := .tuple #[.agg #[.slice (some ⟨w.heap.size + 1, 0, none⟩) n n], .int .i64 0]) ?_ rfl ⟨_, rfl, ?_, ?_⟩
  · simp [results, Try.results5, go_sem, hc, hf]
  · have := ho1.away ⟨w.heap.size, 0, none⟩ (.slice (some ⟨w.heap.size + 1, 0, none⟩) n n) (by simp [Value.ownBlock])
    simpa using this
  · exact (((Below.refl _ _).onAlloc _).on hb1).setCell (by simp) _
set_option maxRecDepth 100000 in
set_option maxHeartbeats 1000000 in
theorem new_no (n : Int) (w : World) (h : n < 0 ∨ 65536 < n) :
    Calls Try.prog 5 #[.int .i64 n] w fun e w' => e = .returned (.tuple #[.agg #[.slice none 0 0], .int .i64 1]) ∧ Below w.heap.size w w' := by
  rcases h with h | h
  all_goals
    go_enter Try.func5, Try.ntmps5
    go_wp2
    refine bodyPost_ret (v := .tuple #[.agg #[.slice none 0 0], .int .i64 1]) ?_ rfl ⟨rfl, ?_⟩
    · simp [results, Try.results5, go_sem]
    · (repeat (first | exact Below.refl _ _ | assumption | refine Below.onNext ?_ _ | refine Below.onAlloc ?_ _ | refine Below.setCell ?_ (by simp) _ | refine Below.drew ?_))

def permX (N : Nat) (x : E) : Bool := decide (1 ≤ x.n ∧ 0 ≤ x.s ∧ x.s + x.n ≤ N)
set_option maxRecDepth 100000 in
set_option maxHeartbeats 1000000 in
theorem perm1_any (ok : Bool) (x : E) (a : Option Addr) (N c b : Nat) (w : World) (hc : w.cell? ⟨b, 0, none⟩ = some (.slice a N c)) (hx : x.wf) (hN : N ≤ 65536) :
    Calls Try.prog 23 #[.bool ok, .agg #[.int .i64 x.a, .int .i64 x.n, .int .i64 x.s], .pointer (some ⟨b, 0, none⟩)] w fun e w' => e = .returned (.bool (ok && permX N x)) ∧ Below w.heap.size w w' := by
  obtain ⟨_, ⟨b3, b4⟩, ⟨b5, b6⟩⟩ := hx
  cases ok
  all_goals
    go_enter Try.func23, Try.ntmps23
    go_wp2
    all_goals
      go_ret
      exact ⟨ret_bool (by simp [permX]; try omega), by (repeat (first | exact Below.refl _ _ | assumption | refine Below.onNext ?_ _ | refine Below.onAlloc ?_ _ | refine Below.setCell ?_ (by simp) _ | refine Below.drew ?_))⟩
theorem permB_next (N : Nat) (l : List E) (k : Nat) (h : k < l.length) : permB N (l.take (k + 1)) = (permB N (l.take k) && permX N l[k]) := permB_take N l k h
set_option maxRecDepth 100000 in
set_option maxHeartbeats 1000000 in
theorem foldP_any (l : List E) (a al : Option Addr) (N c cl b : Nat) (w : World) (hc : w.cell? ⟨b, 0, none⟩ = some (.slice a N c)) (hN : N ≤ 65536) (hr : Rd w al l) (hw : wfL l) :
    Calls Try.prog 22 #[.slice al l.length cl, .bool true, .func (.func 23) #[] #[.pointer (some ⟨b, 0, none⟩)]] w fun e w' => e = .returned (.bool (permB N l)) ∧ Below w.heap.size w w' := by
  have hlen := hr.1
  go_enter Try.func22, Try.ntmps22
  go_wp2_with fail
  go_loopw [1, 11] (fun r i wr => ∃ k : Nat, k ≤ l.length ∧ i = .int .i64 k ∧ r = .bool (permB N (l.take k)) ∧ Below w.heap.size w wr) (fun _ i _ => l.length - (intOf i).toNat)
  case atStart => exact ⟨0, Nat.zero_le _, rfl, rfl, Below.refl _ _⟩
  case round =>
    obtain ⟨k, hk, rfl, rfl, hB⟩ := hrel
    by_cases hlt : k < l.length
    · obtain ⟨b, o, rfl, hat⟩ := (hr.keep hB).at (by omega)
      obtain ⟨h1, h2, h3⟩ := hat k _ (List.getElem?_eq_getElem hlt)
      have HX := Lib.hid (hw _ (List.getElem_mem hlt))
      have HV := Lib.hid (permB_next N l k hlt)
      have hcr := hB.keep hc
      generalize l[k] = x at *
      generalize permB N (l.take k) = p at *
      clear hat hr hc
      go_wp2_with fail
      refine (perm1_any p x a N c _ _ (by simp [hcr]) HX.out hN).mono ?_
      rintro e w1 ⟨rfl, hb1⟩
      go_wp2_with fail
      go_roundw
      case rel => exact ⟨k + 1, by omega, by go_num, by rw [HV.out], (hB.onAlloc _).on hb1⟩
      case measure => simp [intOf]; omega
    · go_wp2
      go_ret
      exact ⟨ret_bool (by rw [List.take_of_length_le (by omega)]), hB⟩
set_option maxRecDepth 100000 in
set_option maxHeartbeats 1000000 in
theorem permitted_is (C : List Int) (l : List E) (a al : Option Addr) (c cl : Nat) (w : World) (hC : C.length ≤ 65536) (hr : Rd w al l) (hw : wfL l) (r : Bool) (hp : permB C.length l = r) :
    Calls Try.prog 14 #[.agg #[.slice a C.length c], .slice al l.length cl] w fun e w' => e = .returned (.bool r) ∧ Below w.heap.size w w' := by
  subst hp
  go_enter Try.func14, Try.ntmps14
  go_wp2_with fail
  refine (foldP_any l a al C.length c cl _ _ (by simp) hC (hr.keep ((Below.refl _ _).onAlloc _)) hw).mono ?_
  rintro e w1 ⟨rfl, hb1⟩
  go_wp2_with fail
  go_ret
  exact ⟨rfl, ((Below.refl _ _).onAlloc _).on hb1⟩

set_option maxRecDepth 100000 in
set_option maxHeartbeats 4000000 in
theorem changed_any (C : List Int) (l : List E) (d : Int) (a al : Option Addr) (c cl : Nat) (w : World) (hrC : RdI w a C) (hr : Rd w al l) (hp : permB C.length l = true) (hd : -1 ≤ d ∧ d ≤ 1) (hR : inR (-1000000000) 1000000000 C) (hl : l.length ≤ 1000000000) :
    Calls Try.prog 15 #[.agg #[.slice a C.length c], .slice al l.length cl, .int .i64 d] w fun e w' => ∃ v, e = .returned (.agg #[v]) ∧ OwnI w' w.heap.size v (chgL C l d) ∧ Below w.heap.size w w' := by
  have hC := hrC.1
  have hlen := hr.1
  have HP := Lib.hid ((permB_iff _ _).1 hp)
  have HR := Lib.hid hR
  clear hp hR
  go_enter Try.func15, Try.ntmps15
  go_upto_region 2 with ((at_make; refine wpList_make_I _ rfl _ _ 25 rfl Try.underlying25 _ _ C.length rfl rfl (by omega) w.heap.size (w.heap.size + 1 + 1) (by simp) (by omega) ?_; intro w1 ho1 hb1 hz1; have hc0 := hb1.keep (a := ⟨w.heap.size, 0, none⟩) (by simp; rfl); have hc := hb1.keep (a := ⟨w.heap.size + 1, 0, none⟩) (by simp; rfl); have hf := hb1.keepF (a := ⟨w.heap.size + 1, 0, none⟩) (by simp; rfl) (b := false) (by simp)))
  have hrC1 := hrC.keep ((((Below.refl w.heap.size w).onAlloc (.cells #[.slice a C.length c] 27)).onAlloc (.cells #[.slice none 0 0] 27)).on hb1)
  go_wp2_with (refine wpList_copy_I _ rfl (.tmp 15) (.tmp 17) 25 25 rfl Try.underlying25 w.heap.size _ C.length _ (List.replicate C.length 0) C a c rfl rfl ho1 (by simp) rfl hrC1 ?_; intro w2 ho2 hg2)
  have hc2 := hg2.cell hc (by simp)
  have hf2 := grown_free hg2 hc hf (by simp)
  have HB2 : Below w.heap.size w w2 := ((((Below.refl w.heap.size w).onAlloc (.cells #[.slice a C.length c] 27)).onAlloc (.cells #[.slice none 0 0] 27)).on hb1).onGrow hg2 (by intro j hj; simp at hj; omega)
  have hgl := (ho2.lt _ rfl).2
  simp only [World.size_alloc] at hgl
  clear ho1 hb1 hz1 hc0 hc hf hg2 hrC1 hrC
  go_loopw [21] (fun i wr => ∃ k : Nat, k ≤ l.length ∧ i = .int .i64 k ∧ OwnI wr w.heap.size (.slice (some ⟨w.heap.size + 1 + 1, 0, none⟩) C.length C.length) (chgL C (l.take k) d) ∧ w2.grownBy wr (some (w.heap.size + 1 + 1))) (fun i _ => l.length - (intOf i).toNat)
  case atStart => exact ⟨0, Nat.zero_le _, rfl, ho2, World.grownBy.refl _ _⟩
  case round =>
    obtain ⟨k, hk, rfl, ho, hg⟩ := hrel
    have hB := HB2.onGrow hg (by intro j hj; simp at hj; omega)
    by_cases hlt : k < l.length
    · obtain ⟨b, o, rfl, hat⟩ := (hr.keep hB).at (by omega)
      obtain ⟨h1, h2, h3⟩ := hat k _ (List.getElem?_eq_getElem hlt)
      obtain ⟨p1, p2, p3⟩ := HP.out _ (List.getElem_mem hlt)
      have HT := Lib.hid (chgL_take C l d k hlt)
      have HRk := Lib.hid (inR_mono (lo' := -2000000000) (hi' := 2000000000) (chgL_range (l.take k) d hd C _ _ HR.out) (by have := List.length_take_le k l; omega) (by have := List.length_take_le k l; omega))
      have HL := Lib.hid (chgL_length C (l.take k) d)
      generalize l[k] = x at *
      generalize chgL C (l.take k) d = D at *
      obtain ⟨xa, xn, xs⟩ := x
      simp only at h1 h2 h3 p1 p2 p3 HT
      obtain ⟨s, rfl⟩ := Int.eq_ofNat_of_zero_le p2
      obtain ⟨n, rfl⟩ := Int.eq_ofNat_of_zero_le (show 0 ≤ xn by omega)
      simp only [Int.toNat_natCast] at HT
      have HO := Lib.hid ho
      clear hat hr ho ho2
      go_wp2_with fail
      have hx1 : (wr.alloc (.cells #[.int .i64 xa, .int .i64 n, .int .i64 s] 32)).cell? ⟨wr.heap.size, 1, none⟩ = some (.int .i64 n) := by simp
      have hx2 : (wr.alloc (.cells #[.int .i64 xa, .int .i64 n, .int .i64 s] 32)).cell? ⟨wr.heap.size, 2, none⟩ = some (.int .i64 s) := by simp
      have hgW : w2.grownBy (wr.alloc (.cells #[.int .i64 xa, .int .i64 n, .int .i64 s] 32)) (some (w.heap.size + 1 + 1)) := World.grownBy.next hg (World.grownBy_alloc _ _ _)
      have HOW := Lib.hid (HO.out.keep ((Below.refl _ _).onAlloc (.cells #[.int .i64 xa, .int .i64 n, .int .i64 s] 32)))
      have hne : ¬ wr.heap.size = w.heap.size + 1 + 1 := by have := hg.size; omega
      generalize wr.alloc (.cells #[.int .i64 xa, .int .i64 n, .int .i64 s] 32) = W0 at *
      generalize wr.heap.size = X at *
      clear HO hB hg
      go_loopw [10] (fun t wi => ∃ p : Nat, s ≤ p ∧ p ≤ s + n ∧ t = .int .i64 p ∧ OwnI wi w.heap.size (.slice (some ⟨w.heap.size + 1 + 1, 0, none⟩) C.length C.length) (addR D s d (p - s)) ∧ W0.grownBy wi (some (w.heap.size + 1 + 1))) (fun t _ => s + n - (intOf t).toNat)
      case atStart => exact ⟨s, Nat.le_refl _, by omega, rfl, by rw [Nat.sub_self]; exact HOW.out, World.grownBy.refl _ _⟩
      case round =>
        obtain ⟨p, hp1, hp2, rfl, hoi, hgi⟩ := hrel
        have y1 := hgi.cell hx1 (by simpa using hne)
        have y2 := hgi.cell hx2 (by simpa using hne)
        have hgc := World.grownBy.next hgW hgi
        by_cases hlp : p < s + n
        · have HLA := Lib.hid (addR_length D s d (p - s))
          have hpl : p < D.length := by have := HL.out; omega
          have hpC : p < C.length := by have := HL.out; omega
          obtain ⟨z1, z2⟩ := inR_get.1 HRk.out p hpl
          have HG := Lib.hid (addR_get D s d (p - s) p hpl)
          have HS := Lib.hid (addR_step D s p d hp1 hpl)
          have hcell := hoi.cells.1 p _ (getD_some _ p (by rw [HLA.out]; exact hpl))
          have hfree := hoi.cells.2 p
          have hv1 : -2000000010 ≤ (addR D s d (p - s)).getD p 0 := by rw [HG.out]; split <;> omega
          have hv2 : (addR D s d (p - s)).getD p 0 ≤ 2000000010 := by rw [HG.out]; split <;> omega
          obtain ⟨HO2, hg3⟩ := OwnI.set (by rw [HLA.out, HL.out]) hoi p ((addR D s d (p - s)).getD p 0 + d)
          have HO2 := Lib.hid HO2
          rw [← HS.out] at HO2
          have HG3 := Lib.hid (World.grownBy.next hgi hg3)
          generalize (addR D s d (p - s)).getD p 0 = y at *
          clear hoi hg3 HG
          go_wp2_with fail
          go_roundw
          case rel => exact ⟨p + 1, by omega, by omega, by go_num, HO2.out, HG3.out⟩
          case measure => simp [intOf]; omega
        · obtain rfl : p = s + n := by omega
          rw [show s + n - s = n by omega] at hoi
          have HOI := Lib.hid hoi
          clear hoi
          go_wp2_with fail
          go_roundw
          case rel => exact ⟨k + 1, by omega, by go_num, by rw [HT.out]; exact HOI.out, hgc⟩
          case measure => simp [intOf]; omega
    · have hc3 := hg.cell hc2 (by simp)
      have hf3 := grown_free hg hc2 hf2 (by simp)
      rw [List.take_of_length_le (by omega)] at ho
      go_wp2
      refine bodyPost_ret (v := .agg #[.slice (some ⟨w.heap.size + 1 + 1, 0, none⟩) C.length C.length]) ?_ rfl ⟨_, rfl, ?_, ?_⟩
      · simp [results, Try.results15, go_sem, hc3, hf3]
      · have := ho.away ⟨w.heap.size + 1, 0, none⟩ (.slice (some ⟨w.heap.size + 1 + 1, 0, none⟩) C.length C.length) (by simp [Value.ownBlock])
        simpa using this
      · exact hB.setCell (by simp) _
end Go.Proofs.Ytnfaciageadlkaa

namespace Go.Proofs.Ytnfaciageadlkaa
set_option linter.unusedSimpArgs false
set_option linter.unusedVariables false
set_option maxRecDepth 100000
open Go.RowKit

theorem get_range {C : List Int} {lo hi : Int} (h : inR lo hi C) {k : Nat} (hk : k < C.length) : lo ≤ C[k] ∧ C[k] ≤ hi := h _ (List.getElem_mem hk)
theorem sum_bd {C : List Int} (h : inR 0 1000000000 C) : 0 ≤ sumC C ∧ sumC C ≤ 1000000000 * C.length := sumC_bound h (by omega)
theorem used_bd {C : List Int} (h : inR 0 1000000000 C) : 0 ≤ usedC C ∧ usedC C ≤ C.length := usedC_bound h
set_option maxRecDepth 100000 in
set_option maxHeartbeats 1000000 in
theorem foldT_any (C : List Int) (a : Option Addr) (c : Nat) (w : World) (hrC : RdI w a C) (hR : inR 0 1000000000 C) :
    Calls Try.prog 16 #[.slice a C.length c, .int .i64 0, .func (.func 17) #[] #[]] w fun e w' => e = .returned (.int .i64 (sumC C)) ∧ Below w.heap.size w w' := by
  have hC := hrC.1
  go_enter Try.func16, Try.ntmps16
  go_wp2_with fail
  go_loopw [1, 11] (fun r i wr => ∃ k : Nat, k ≤ C.length ∧ i = .int .i64 k ∧ r = .int .i64 (sumC (C.take k)) ∧ Below w.heap.size w wr) (fun _ i _ => C.length - (intOf i).toNat)
  case atStart => exact ⟨0, Nat.zero_le _, rfl, rfl, Below.refl _ _⟩
  case round =>
    obtain ⟨k, hk, rfl, rfl, hB⟩ := hrel
    by_cases hlt : k < C.length
    · obtain ⟨b, o, rfl, hat⟩ := (hrC.keep hB).at (by omega)
      have h1 := hat k _ (List.getElem?_eq_getElem hlt)
      have HT := Lib.hid (sumC_take C k hlt)
      obtain ⟨x1, x2⟩ := get_range hR hlt
      obtain ⟨s1, s2⟩ := sum_bd (take_range hR k)
      have hle : (C.take k).length ≤ 65536 := Nat.le_trans (List.length_take_le _ _) (by omega)
      generalize C[k] = x at *
      generalize sumC (C.take k) = sm at *
      clear hat hrC
      have hsm : sm ≤ 70000000000000 := by omega
      go_wp2
      all_goals
        go_roundw
        case rel => exact ⟨k + 1, by omega, by go_num, by rw [HT.out]; first | rfl | (go_num) | (rw [Int.min_eq_left (by omega)]) | (rw [Int.min_eq_right (by omega)]), by first | exact hB | (repeat (first | exact Below.refl _ _ | assumption | refine Below.onNext ?_ _ | refine Below.onAlloc ?_ _ | refine Below.setCell ?_ (by simp) _ | refine Below.drew ?_))⟩
        case measure => simp [intOf]; omega
    · go_wp2
      go_ret
      exact ⟨ret_int (by rw [List.take_of_length_le (by omega)]), hB⟩
set_option maxRecDepth 100000 in
set_option maxHeartbeats 1000000 in
theorem foldU_any (C : List Int) (a : Option Addr) (c : Nat) (w : World) (hrC : RdI w a C) (hR : inR 0 1000000000 C) :
    Calls Try.prog 16 #[.slice a C.length c, .int .i64 0, .func (.func 18) #[] #[]] w fun e w' => e = .returned (.int .i64 (usedC C)) ∧ Below w.heap.size w w' := by
  have hC := hrC.1
  go_enter Try.func16, Try.ntmps16
  go_wp2_with fail
  go_loopw [1, 11] (fun r i wr => ∃ k : Nat, k ≤ C.length ∧ i = .int .i64 k ∧ r = .int .i64 (usedC (C.take k)) ∧ Below w.heap.size w wr) (fun _ i _ => C.length - (intOf i).toNat)
  case atStart => exact ⟨0, Nat.zero_le _, rfl, rfl, Below.refl _ _⟩
  case round =>
    obtain ⟨k, hk, rfl, rfl, hB⟩ := hrel
    by_cases hlt : k < C.length
    · obtain ⟨b, o, rfl, hat⟩ := (hrC.keep hB).at (by omega)
      have h1 := hat k _ (List.getElem?_eq_getElem hlt)
      have HT := Lib.hid (usedC_take C k hlt)
      obtain ⟨x1, x2⟩ := get_range hR hlt
      obtain ⟨s1, s2⟩ := used_bd (take_range hR k)
      have hle : (C.take k).length ≤ 65536 := Nat.le_trans (List.length_take_le _ _) (by omega)
      generalize C[k] = x at *
      generalize usedC (C.take k) = sm at *
      clear hat hrC
      have hsm : sm ≤ 70000000000000 := by omega
      go_wp2
      all_goals
        go_roundw
        case rel => exact ⟨k + 1, by omega, by go_num, by rw [HT.out]; first | rfl | (go_num) | (rw [Int.min_eq_left (by omega)]) | (rw [Int.min_eq_right (by omega)]), by first | exact hB | (repeat (first | exact Below.refl _ _ | assumption | refine Below.onNext ?_ _ | refine Below.onAlloc ?_ _ | refine Below.setCell ?_ (by simp) _ | refine Below.drew ?_))⟩
        case measure => simp [intOf]; omega
    · go_wp2
      go_ret
      exact ⟨ret_int (by rw [List.take_of_length_le (by omega)]), hB⟩
set_option maxRecDepth 100000 in
set_option maxHeartbeats 1000000 in
theorem total_any (C : List Int) (a : Option Addr) (c : Nat) (w : World) (hrC : RdI w a C) (hR : inR 0 1000000000 C) :
    Calls Try.prog 7 #[.agg #[.slice a C.length c]] w fun e w' => e = .returned (.int .i64 (sumC C)) ∧ Below w.heap.size w w' := by
  go_enter Try.func7, Try.ntmps7
  go_wp2_with fail
  refine (foldT_any C a c _ (hrC.keep ((Below.refl _ _).onAlloc _)) hR).mono ?_
  rintro e w1 ⟨rfl, hb1⟩
  go_wp2_with fail
  go_ret
  exact ⟨rfl, ((Below.refl _ _).onAlloc _).on hb1⟩
set_option maxRecDepth 100000 in
set_option maxHeartbeats 1000000 in
theorem used_any (C : List Int) (a : Option Addr) (c : Nat) (w : World) (hrC : RdI w a C) (hR : inR 0 1000000000 C) :
    Calls Try.prog 8 #[.agg #[.slice a C.length c]] w fun e w' => e = .returned (.int .i64 (usedC C)) ∧ Below w.heap.size w w' := by
  go_enter Try.func8, Try.ntmps8
  go_wp2_with fail
  refine (foldU_any C a c _ (hrC.keep ((Below.refl _ _).onAlloc _)) hR).mono ?_
  rintro e w1 ⟨rfl, hb1⟩
  go_wp2_with fail
  go_ret
  exact ⟨rfl, ((Below.refl _ _).onAlloc _).on hb1⟩
/-- The count of a slot, if there is one. -/
def ofC (C : List Int) (s : Int) : Int := if 0 ≤ s ∧ s < C.length then C.getD s.toNat 0 else 0
set_option maxRecDepth 100000 in
set_option maxHeartbeats 1000000 in
theorem of_any (C : List Int) (a : Option Addr) (c : Nat) (s : Int) (w : World) (hrC : RdI w a C) :
    Calls Try.prog 11 #[.agg #[.slice a C.length c], .int .i64 s] w fun e w' => e = .returned (.int .i64 (ofC C s)) ∧ Below w.heap.size w w' := by
  have hC := hrC.1
  by_cases hs : 0 ≤ s ∧ s < C.length
  · obtain ⟨h0, h1⟩ := hs
    have HF : Hid (ofC C s = C.getD s.toNat 0) := Lib.hid (if_pos ⟨h0, h1⟩)
    obtain ⟨n, rfl⟩ := Int.eq_ofNat_of_zero_le h0
    have hn : n < C.length := by omega
    obtain ⟨b, o, rfl, hat⟩ := hrC.at (by omega)
    have hc := hat n _ (getD_some C n hn)
    rw [Int.toNat_natCast] at HF
    generalize C.getD n 0 = x at *
    clear hat hrC
    go_enter Try.func11, Try.ntmps11
    go_wp2
    go_ret
    exact ⟨ret_int HF.out.symm, (Below.refl _ _).onAlloc _⟩
  · have HF : Hid (ofC C s = 0) := Lib.hid (if_neg hs)
    by_cases h0 : s < 0
    all_goals
      go_enter Try.func11, Try.ntmps11
      go_wp2
      all_goals first | (exfalso; omega) | (go_ret; exact ⟨ret_int HF.out.symm, (Below.refl _ _).onAlloc _⟩)
set_option maxRecDepth 100000 in
set_option maxHeartbeats 1000000 in
theorem add_yes (C : List Int) (l : List E) (a al : Option Addr) (c cl : Nat) (w : World) (hrC : RdI w a C) (hr : Rd w al l) (hw : wfL l) (hp : permB C.length l = true) (hR : inR 0 1000000000 C) (hl : l.length ≤ 1000000000) :
    Calls Try.prog 6 #[.agg #[.slice a C.length c], .slice al l.length cl] w fun e w' => ∃ v, e = .returned (.tuple #[.agg #[v], .int .i64 0]) ∧ OwnI w' w.heap.size v (chgL C l 1) ∧ Below w.heap.size w w' := by
  have hC := hrC.1
  have HP := Lib.hid hp
  clear hp
  go_enter Try.func6, Try.ntmps6
  go_wp2_with fail
  refine (permitted_is C l a al c cl _ hC (hr.keep ?_) hw true HP.out).mono ?_
  · (repeat (first | exact Below.refl _ _ | assumption | refine Below.onNext ?_ _ | refine Below.onAlloc ?_ _ | refine Below.setCell ?_ (by simp) _ | refine Below.drew ?_))
  rintro e w1 ⟨rfl, hb1⟩
  have hc0 := hb1.keep (a := ⟨w.heap.size, 0, none⟩) (by simp; rfl)
  have hc := hb1.keep (a := ⟨w.heap.size + 1, 0, none⟩) (by simp; rfl)
  have hf := hb1.keepF (a := ⟨w.heap.size + 1, 0, none⟩) (by simp; rfl) (b := false) (by simp)
  have hB1 : Below w.heap.size w w1 := (((Below.refl w.heap.size w).onAlloc _).onAlloc _).on hb1
  have hz1 := hb1.size
  simp only [World.size_alloc] at hz1
  clear hb1
  go_wp2_with fail
  refine (changed_any C l 1 a al c cl _ (hrC.keep hB1) (hr.keep hB1) HP.out (by omega) (inR_mono hR (by omega) (by omega)) hl).mono ?_
  rintro e w2 ⟨v, rfl, ho, hb2⟩
  have hc := hb2.keep hc
  have hf := hb2.keepF ‹w1.cell? ⟨w.heap.size + 1, 0, none⟩ = _› hf
  have hB2 := hB1.on hb2
  have ho := (ho.mono (B' := w.heap.size + 1 + 1) hz1)
  obtain ⟨a2, c2, rfl, _⟩ := ho.rd (by rw [chgL_length]; exact hC)
  rw [chgL_length] at ho ⊢
  have HO := Lib.hid ho
  clear ho
  go_wp2_with fail
  refine bodyPost_ret (v := .tuple #[.agg #[.slice a2 C.length c2], .int .i64 0]) ?_ rfl ⟨_, rfl, ?_, ?_⟩
  · simp [results, Try.results6, go_sem, hc, hf]
  · exact (HO.out.away _ _ (fun h => by have := (HO.out.lt _ h).1; simp at this; omega)).mono (by omega)
  · exact hB2.setCell (by simp) _
set_option maxRecDepth 100000 in
set_option maxHeartbeats 1000000 in
theorem add_no (C : List Int) (l : List E) (a al : Option Addr) (c cl : Nat) (w : World) (hC : C.length ≤ 65536) (hr : Rd w al l) (hw : wfL l) (hp : permB C.length l = false) :
    Calls Try.prog 6 #[.agg #[.slice a C.length c], .slice al l.length cl] w fun e w' => e = .returned (.tuple #[.agg #[.slice none 0 0], .int .i64 2]) ∧ Below w.heap.size w w' := by
  have HP := Lib.hid hp
  clear hp
  go_enter Try.func6, Try.ntmps6
  go_wp2_with fail
  refine (permitted_is C l a al c cl _ hC (hr.keep ?_) hw false HP.out).mono ?_
  · (repeat (first | exact Below.refl _ _ | assumption | refine Below.onNext ?_ _ | refine Below.onAlloc ?_ _ | refine Below.setCell ?_ (by simp) _ | refine Below.drew ?_))
  rintro e w1 ⟨rfl, hb1⟩
  have hc := hb1.keep (a := ⟨w.heap.size + 1, 0, none⟩) (by simp; rfl)
  have hf := hb1.keepF (a := ⟨w.heap.size + 1, 0, none⟩) (by simp; rfl) (b := false) (by simp)
  have hB1 : Below w.heap.size w w1 := (((Below.refl w.heap.size w).onAlloc _).onAlloc _).on hb1
  clear hb1
  go_wp2_with fail
  refine bodyPost_ret (v := .tuple #[.agg #[.slice none 0 0], .int .i64 2]) ?_ rfl ⟨rfl, ?_⟩
  · simp [results, Try.results6, go_sem, hc, hf]
  · exact hB1.setCell (by simp) _

/-! ### A negative count -/
def negB (C : List Int) : Bool := C.any fun x => decide (x < 0)
theorem negB_iff (C : List Int) : negB C = false ↔ ∀ x ∈ C, 0 ≤ x := by simp [negB]
theorem negB_take (C : List Int) (k : Nat) (h : k < C.length) : negB (C.take (k + 1)) = (negB (C.take k) || decide (C[k] < 0)) := by
  rw [List.take_succ_eq_append_getElem h]; simp only [negB, List.any_append, List.any_cons, List.any_nil, Bool.or_false]
theorem negB_at (C : List Int) (k : Nat) (h : k < C.length) (hx : C[k] < 0) : negB C = true := List.any_eq_true.2 ⟨_, List.getElem_mem h, decide_eq_true hx⟩
def FoundNeg (C : List Int) (w : World) (e : Ending) (w' : World) : Prop := ∃ r : Int, e = .returned (.int .i64 r) ∧ decide (0 ≤ r) = negB C ∧ Below w.heap.size w w'
set_option maxRecDepth 100000 in
set_option maxHeartbeats 1000000 in
theorem index_neg (C : List Int) (a : Option Addr) (c : Nat) (w : World) (hrC : RdI w a C) :
    Calls Try.prog 24 #[.slice a C.length c, .func (.func 20) #[] #[]] w (FoundNeg C w) := by
  have hC := hrC.1
  go_enter Try.func24, Try.ntmps24
  go_wp2_with fail
  go_loopw [8] (fun i wr => ∃ k : Nat, k ≤ C.length ∧ i = .int .i64 k ∧ negB (C.take k) = false ∧ Below w.heap.size w wr) (fun i _ => C.length - (intOf i).toNat)
  case atStart => exact ⟨0, Nat.zero_le _, rfl, rfl, Below.refl _ _⟩
  case round =>
    obtain ⟨k, hk, rfl, hn, hB⟩ := hrel
    by_cases hlt : k < C.length
    · obtain ⟨b, o, rfl, hat⟩ := (hrC.keep hB).at (by omega)
      have h1 := hat k _ (List.getElem?_eq_getElem hlt)
      have HT := Lib.hid (negB_take C k hlt)
      have HA := Lib.hid (negB_at C k hlt)
      have HN := Lib.hid hn
      generalize C[k] = x at *
      clear hat hrC hn
      by_cases hx : x < 0
      · have hd : decide (x < 0) = true := by simpa using hx
        have HF := Lib.hid (HA.out hx)
        clear hx HA
        go_wp2
        go_ret
        exact ⟨k, rfl, by rw [HF.out]; simp, hB⟩
      · have hd : decide (x < 0) = false := by simpa using hx
        have HD := Lib.hid hd
        clear hx HA
        go_wp2
        go_roundw
        case rel => exact ⟨k + 1, by omega, by go_num, by rw [HT.out, HN.out, HD.out]; rfl, hB⟩
        case measure => simp [intOf]; omega
    · have HN := Lib.hid hn
      clear hn
      go_wp2
      go_ret
      refine ⟨-1, rfl, ?_, hB⟩
      have := HN.out
      rw [List.take_of_length_le (by omega)] at this
      rw [this]
      rfl
set_option maxRecDepth 100000 in
set_option maxHeartbeats 1000000 in
theorem contains_neg (C : List Int) (a : Option Addr) (c : Nat) (w : World) (hrC : RdI w a C) (r : Bool) (hn : negB C = r) :
    Calls Try.prog 19 #[.slice a C.length c, .func (.func 20) #[] #[]] w fun e w' => e = .returned (.bool r) ∧ Below w.heap.size w w' := by
  subst hn
  go_enter Try.func19, Try.ntmps19
  go_wp2_with fail
  refine (index_neg C a c _ hrC).mono ?_
  rintro e w1 ⟨r, rfl, hr, hb1⟩
  have HR := Lib.hid hr
  clear hr
  go_wp2_with fail
  go_ret
  exact ⟨ret_bool (by rw [← HR.out]), hb1⟩
end Go.Proofs.Ytnfaciageadlkaa
