/-
  Rows of ints: what a call owns, and what it can read.
  Conditions: none.
-/
import Derived.Test.YtolhajkbamhdgaaRcQ
import Derived.Test.YtolhajkbamhdgaaRuR
import Derived.Laws.CopyOwn
namespace Go.Proofs.Ytolhajkbamhdgaa
set_option linter.unusedSimpArgs false
set_option linter.unusedVariables false
open Go.RowKit

theorem infoI : (Try.prog.info? 3).map (fun i => (i.zero, i.size, i.bytes)) = some (some (.int .i64 0), 1, 8) := by kernel_rfl
/-- The slice 'a, length' reads as the list of counts C. -/
def RdI (w : World) (a : Option Addr) (C : List Int) : Prop :=
  C.length ≤ 65536 ∧ (C = [] ∨ ∃ b o, a = some ⟨b, o, none⟩ ∧ ∀ k x, C[k]? = some x → w.cell? ⟨b, o + k, none⟩ = some (.int .i64 x))
def OwnI (w : World) (B : Nat) (v : Value) (C : List Int) : Prop := w.ownsRow B 3 1 v C.length (C.map (Value.int .i64))
theorem RdI.keep {w w' : World} (h : Below w.heap.size w w') {a : Option Addr} {C : List Int} (hr : RdI w a C) : RdI w' a C :=
  ⟨hr.1, hr.2.imp id fun ⟨b, o, ha, hat⟩ => ⟨b, o, ha, fun k x hk => h.keep (hat k x hk)⟩⟩
theorem RdI.at {w : World} {a : Option Addr} {C : List Int} (hr : RdI w a C) (h : 0 < C.length) : ∃ b o, a = some ⟨b, o, none⟩ ∧ ∀ k x, C[k]? = some x → w.cell? ⟨b, o + k, none⟩ = some (.int .i64 x) :=
  hr.2.resolve_left (by intro e; rw [e] at h; simp at h)
theorem OwnI.nil (w : World) (B : Nat) : OwnI w B (.slice none 0 0) [] := World.ownsRow_nil _ _ _ _
theorem OwnI.lt {w : World} {B : Nat} {v : Value} {C : List Int} (h : OwnI w B v C) : ∀ k, v.ownBlock = some k → B ≤ k ∧ k < w.heap.size := World.ownsRow.lt h
theorem OwnI.mono {w : World} {B B' : Nat} {v : Value} {C : List Int} (h : OwnI w B v C) (hB : B' ≤ B) : OwnI w B' v C :=
  ⟨h.1, h.2.imp id fun ⟨g, cap, cur, hv, hg, r⟩ => ⟨g, cap, cur, hv, Nat.le_trans hB hg, r⟩⟩
theorem OwnI.keep {w w' : World} {B : Nat} {v : Value} {C : List Int} (h : OwnI w B v C) (hb : Below w.heap.size w w') : OwnI w' B v C :=
  World.ownsRow.kept h (row := none) ⟨hb.os, hb.tape, hb.output, hb.size, fun k hk _ => hb.block k hk⟩ (by cases hv : v.ownBlock <;> simp)
theorem OwnI.other {w w' : World} {B : Nat} {v : Value} {C : List Int} {row : Option Nat} (h : OwnI w B v C) (hg : w.grownBy w' row) (hne : v.ownBlock = none ∨ v.ownBlock ≠ row) : OwnI w' B v C :=
  World.ownsRow.kept h hg hne
theorem OwnI.form {w : World} {B : Nat} {v : Value} {C : List Int} (h : OwnI w B v C) :
    (v = .slice none 0 0 ∧ C = []) ∨ ∃ g c, v = .slice (some ⟨g, 0, none⟩) C.length c ∧ B ≤ g ∧ g < w.heap.size ∧ C.length ≤ c ∧ c ≤ maxLen ∧ (∀ k x, C[k]? = some x → w.cell? ⟨g, k, none⟩ = some (.int .i64 x)) ∧ ∀ i, w.frozen? ⟨g, i, none⟩ = false := by
  rcases h.2 with ⟨rfl, hn⟩ | ⟨g, cap, cur, rfl, hb, hg, hn, hc, hs, ht⟩
  · exact .inl ⟨rfl, List.eq_nil_of_length_eq_zero hn⟩
  · refine .inr ⟨g, cap, rfl, hb, (Array.getElem?_eq_some_iff.1 hg).1, hn, hc, fun k x hk => ?_, fun i => World.ownsRow.frozenAt h i⟩
    have hk' : k < C.length := (List.getElem?_eq_some_iff.1 hk).1
    rw [World.ownsRow.cellAt (cap := cap) h k (by omega), List.getElem?_map, hk]
    rfl
theorem OwnI.cells {w : World} {B g c n : Nat} {C : List Int} (h : OwnI w B (.slice (some ⟨g, 0, none⟩) n c) C) : (∀ k x, C[k]? = some x → w.cell? ⟨g, k, none⟩ = some (.int .i64 x)) ∧ ∀ i, w.frozen? ⟨g, i, none⟩ = false := by
  rcases h.form with ⟨h, _⟩ | ⟨g', cc, h, _, _, _, _, hat, hf⟩
  · cases h
  · injection h with h
    injection h with h
    injection h with h
    subst h
    exact ⟨hat, hf⟩
theorem OwnI.rd {w : World} {B : Nat} {v : Value} {C : List Int} (h : OwnI w B v C) (hl : C.length ≤ 65536) : ∃ a c, v = .slice a C.length c ∧ RdI w a C := by
  rcases h.form with ⟨rfl, rfl⟩ | ⟨g, c, rfl, _, _, _, _, hat, _⟩
  · exact ⟨_, _, rfl, by simp, .inl rfl⟩
  · exact ⟨_, _, rfl, hl, .inr ⟨g, 0, rfl, fun k x hk => by rw [Nat.zero_add]; exact hat k x hk⟩⟩
theorem OwnI.set {w : World} {B g c n : Nat} {C : List Int} (hn : n = C.length) (h : OwnI w B (.slice (some ⟨g, 0, none⟩) n c) C) (k : Nat) (x : Int) :
    OwnI (w.setCell ⟨g, k, none⟩ (.int .i64 x)) B (.slice (some ⟨g, 0, none⟩) n c) (C.set k x) ∧ w.grownBy (w.setCell ⟨g, k, none⟩ (.int .i64 x)) (some g) := by
  subst hn
  obtain ⟨s1, g1⟩ := World.ownsRow.stored h k (.int .i64 x)
  refine ⟨?_, g1⟩
  unfold OwnI
  rw [List.length_set, List.map_set]
  exact s1
theorem made_ints (n : Nat) : (madeCells (Value.int .i64 0).cells (n * 1)).toList = (List.replicate n (0 : Int)).map (Value.int .i64) := by
  apply List.ext_getElem
  · simp [madeCells]
  · intro i h1 h2
    simp [madeCells, Value.cells, Nat.mod_one]
/-- A row out of make. -/
theorem OwnI.made {w : World} {B : Nat} {v : Value} {n : Nat} (h : w.ownsRow B 3 1 v n (madeCells (Value.int .i64 0).cells (n * 1)).toList) : OwnI w B v (List.replicate n 0) := by
  unfold OwnI
  rw [List.length_replicate, ← made_ints]
  exact h
theorem grown_below {w w' : World} (h : w.grownBy w' none) : Below w.heap.size w w' := ⟨h.os, h.tape, h.output, h.size, fun k hk => h.block k hk (by simp)⟩
theorem grown_setCell (w : World) (a : Addr) (u : Value) : w.grownBy (w.setCell a u) (some a.block) :=
  ⟨rfl, rfl, rfl, by simp [World.setCell], fun k hk hne => Below.heap_setCell _ _ _ _ (fun e => hne (by rw [e]))⟩
theorem OwnI.away {w : World} {B : Nat} {v : Value} {C : List Int} (h : OwnI w B v C) (a : Addr) (u : Value) (hne : v.ownBlock ≠ some a.block) : OwnI (w.setCell a u) B v C :=
  h.other (grown_setCell w a u) (.inr hne)
theorem OwnE.away {w : World} {B : Nat} {v : Value} {l : List E} (h : OwnE w B v l) (a : Addr) (u : Value) (hne : v.ownBlock ≠ some a.block) : OwnE (w.setCell a u) B v l :=
  h.other (grown_setCell w a u) (.inr hne)
theorem grown_free {w w' : World} {row : Option Nat} (hg : w.grownBy w' row) {a : Addr} {v : Value} (hc : w.cell? a = some v) {b : Bool} (hf : w.frozen? a = b) (hne : some a.block ≠ row) : w'.frozen? a = b := by
  rw [World.frozen?_of_block (hg.block a.block (World.block_lt_of_cell? w a hc) hne)]; exact hf
theorem addR_step (D : List Int) (s p : Nat) (d : Int) (h : s ≤ p) (hp : p < D.length) : addR D s d (p + 1 - s) = (addR D s d (p - s)).set p ((addR D s d (p - s)).getD p 0 + d) := by
  rw [show p + 1 - s = (p - s) + 1 by omega]
  simp only [addR]
  rw [show s + (p - s) = p by omega]
theorem getD_some (D : List Int) (p : Nat) (hp : p < D.length) : D[p]? = some (D.getD p 0) := by
  rw [List.getD_eq_getElem?_getD, List.getElem?_eq_getElem hp]; rfl
theorem RdI.source {w : World} {a : Option Addr} {C : List Int} (h : RdI w a C) : w.source 1 a C.length (C.map (Value.int .i64)) := by
  refine ⟨by simp, fun u hu => by obtain ⟨x, _, rfl⟩ := List.mem_map.1 hu; rfl, ?_⟩
  rcases h.2 with rfl | ⟨b, o, rfl, hat⟩
  · cases a with
    | none => exact .inl ⟨rfl, rfl⟩
    | some ad => exact .inr ⟨ad, rfl, fun j u hu => by simp at hu⟩
  · refine .inr ⟨_, rfl, fun j u hu => ?_⟩
    rw [List.getElem?_map] at hu
    obtain ⟨x, hx, rfl⟩ := Option.map_eq_some_iff.1 hu
    have := hat j x hx
    by_cases hj0 : j = 0
    · subst hj0; simpa [Addr.add] using this
    · simpa [Addr.add, hj0] using this
theorem OwnI.empty (w : World) (B : Nat) (hB : B ≤ w.heap.size) : OwnI (w.alloc (.cells #[] 3)) B (.slice (some ⟨w.heap.size, 0, none⟩) 0 0) [] :=
  World.ownsRow_lit w #[] 0 hB (by simp) rfl
theorem OwnI.append {w : World} {B n : Nat} {v : Value} {C D : List Int} (h : w.ownsRow B 3 1 v n (C.map (Value.int .i64) ++ D.map (Value.int .i64))) (hn : n = C.length + D.length) : OwnI w B v (C ++ D) := by
  subst hn
  unfold OwnI
  rw [List.map_append, List.length_append]
  exact h
theorem OwnE.rd' {w : World} {B : Nat} {a : Option Addr} {n c : Nat} {l : List E} (h : OwnE w B (.slice a n c) l) (hl : l.length ≤ 46912496118443) : Rd w a l := by
  obtain ⟨a', c', he, hr⟩ := h.rd hl
  injection he with he
  rw [he]
  exact hr
/-- make([]int, n). -/
theorem wpList_make_I (w : World) {ops : Array Oper} {rest : List Oper} {o : Oper} {a : Act} {Q : Exit → Act → World → Prop}
    (hg : o.guard = none) (l c : Operand) (t : TypeId) (hop : o.op = Op.makeSlice t l c) (h1 : Try.prog.underlying t = some (.slice 3)) (kl kc : IntKind) (n : Nat) (hl : a.eval l = .int kl n) (hc : a.eval c = .int kc n) (hn : n ≤ 65536) (B G : Nat) (hG : w.heap.size = G) (hB : B ≤ G)
    (hK : ∀ w', OwnI w' B (.slice (some ⟨G, 0, none⟩) n n) (List.replicate n 0) → Below w.heap.size w w' → G < w'.heap.size → wpList Try.prog ops Q rest (a.put o.dst (.slice (some ⟨G, 0, none⟩) n n)) w') :
    wpList Try.prog ops Q (o :: rest) a w := by
  subst hG
  obtain ⟨i0, hi, hz0, hz1, hz2⟩ := info_parts infoI
  refine wpList_make_full w hg l c t hop B 3 i0 (.int .i64 0) 1 h1 hi hz0 hz1 kl kc n n n hl hc rfl rfl (by rw [hz2]; omega) (by unfold maxLen; omega) hB fun w' ho hgr => ?_
  refine hK w' (OwnI.made ho) (grown_below hgr) ?_
  rcases ho.2 with ⟨h, _⟩ | ⟨g, cap, cur, h, _, hgg, _⟩
  · cases h
  · injection h with h
    injection h with h
    injection h with h
    subst h
    exact (Array.getElem?_eq_some_iff.1 hgg).1
/-- copy of all counts into a row of the call's own. -/
theorem wpList_copy_I (w : World) {ops : Array Oper} {rest : List Oper} {o : Oper} {a : Act} {Q : Exit → Act → World → Prop}
    (hgd : o.guard = none) (d s : Operand) (dT sT : TypeId) (ho : o.op = .call { callee := .builtin .copy, args := #[d, s], argTypes := #[dT, sT] }) (hu : Try.prog.underlying dT = some (.slice 3))
    (B g n cap : Nat) (D C : List Int) (sp : Option Addr) (sc : Nat) (hd : a.eval d = .slice (some ⟨g, 0, none⟩) n cap) (hs : a.eval s = .slice sp n sc) (hown : OwnI w B (.slice (some ⟨g, 0, none⟩) n cap) D) (hD : D.length = n) (hC : C.length = n) (hr : RdI w sp C)
    (h : ∀ w', OwnI w' B (.slice (some ⟨g, 0, none⟩) n cap) C → w.grownBy w' (some g) → wpList Try.prog ops Q rest (a.put o.dst (goInt n)) w') :
    wpList Try.prog ops Q (o :: rest) a w := by
  have hsz : (Try.prog.info? 3).map (·.size) = some 1 := by kernel_rfl
  subst hC
  by_cases h0 : C.length = 0
  · refine wpList_copy_nothing hgd d s dT sT ho 3 hu hsz _ _ _ _ _ _ hd hs (by simp [h0]) ?_
    obtain rfl : C = [] := List.eq_nil_of_length_eq_zero h0
    obtain rfl : D = [] := List.eq_nil_of_length_eq_zero hD
    exact h w hown ⟨rfl, rfl, rfl, Nat.le_refl _, fun _ _ _ => rfl⟩
  · obtain ⟨b, off, rfl, hat⟩ := hr.at (by omega)
    rcases hown.2 with ⟨hv, _⟩ | ⟨g', cap', cur, hv, hbg, hg, hnc, hcm, hcs, htake⟩
    · cases hv
    · injection hv with e1 e2 e3
      injection e1 with e1
      injection e1 with e1
      subst e1 e3
      refine wpList_copy_own hgd d s dT sT ho 3 hu hsz g 0 _ _ ⟨b, off, none⟩ _ _ hd hs cur 3 hg (C.map (Value.int .i64)) (by simp) (fun j v hj => ?_) (by rw [List.length_map]; omega) (fun v hv => ?_) ?_
      · rw [List.getElem?_map] at hj
        obtain ⟨x, hx, rfl⟩ := Option.map_eq_some_iff.1 hj
        have := hat j x hx
        by_cases hj0 : j = 0
        · subst hj0; simpa [Addr.add] using this
        · simpa [Addr.add, hj0] using this
      · obtain ⟨x, _, rfl⟩ := List.mem_map.1 hv
        rfl
      · rw [List.length_map]
        refine h _ ⟨by simp, .inr ⟨g, cap, _, rfl, hbg, setRow_heap w g _ _ _ _ hg, by omega, hcm, ?_, ?_⟩⟩ ⟨rfl, rfl, rfl, by simp [World.setRow], fun k _ hk => setRow_other w g k _ (fun e => hk (by simp [e]))⟩
        · simp; omega
        · simp

/-! ### Rows of bools -/
theorem infoM : (Try.prog.info? 4).map (fun i => (i.zero, i.size, i.bytes)) = some (some (.bool false), 1, 1) := by kernel_rfl
/-- The same for rows of bools. -/
def RdM (w : World) (a : Option Addr) (C : List Bool) : Prop :=
  C.length ≤ 65536 ∧ (C = [] ∨ ∃ b o, a = some ⟨b, o, none⟩ ∧ ∀ k x, C[k]? = some x → w.cell? ⟨b, o + k, none⟩ = some (.bool x))
def OwnM (w : World) (B : Nat) (v : Value) (C : List Bool) : Prop := w.ownsRow B 4 1 v C.length (C.map (Value.bool))
theorem RdM.keep {w w' : World} (h : Below w.heap.size w w') {a : Option Addr} {C : List Bool} (hr : RdM w a C) : RdM w' a C :=
  ⟨hr.1, hr.2.imp id fun ⟨b, o, ha, hat⟩ => ⟨b, o, ha, fun k x hk => h.keep (hat k x hk)⟩⟩
theorem RdM.at {w : World} {a : Option Addr} {C : List Bool} (hr : RdM w a C) (h : 0 < C.length) : ∃ b o, a = some ⟨b, o, none⟩ ∧ ∀ k x, C[k]? = some x → w.cell? ⟨b, o + k, none⟩ = some (.bool x) :=
  hr.2.resolve_left (by intro e; rw [e] at h; simp at h)
theorem OwnM.nil (w : World) (B : Nat) : OwnM w B (.slice none 0 0) [] := World.ownsRow_nil _ _ _ _
theorem OwnM.lt {w : World} {B : Nat} {v : Value} {C : List Bool} (h : OwnM w B v C) : ∀ k, v.ownBlock = some k → B ≤ k ∧ k < w.heap.size := World.ownsRow.lt h
theorem OwnM.mono {w : World} {B B' : Nat} {v : Value} {C : List Bool} (h : OwnM w B v C) (hB : B' ≤ B) : OwnM w B' v C :=
  ⟨h.1, h.2.imp id fun ⟨g, cap, cur, hv, hg, r⟩ => ⟨g, cap, cur, hv, Nat.le_trans hB hg, r⟩⟩
theorem OwnM.keep {w w' : World} {B : Nat} {v : Value} {C : List Bool} (h : OwnM w B v C) (hb : Below w.heap.size w w') : OwnM w' B v C :=
  World.ownsRow.kept h (row := none) ⟨hb.os, hb.tape, hb.output, hb.size, fun k hk _ => hb.block k hk⟩ (by cases hv : v.ownBlock <;> simp)
theorem OwnM.other {w w' : World} {B : Nat} {v : Value} {C : List Bool} {row : Option Nat} (h : OwnM w B v C) (hg : w.grownBy w' row) (hne : v.ownBlock = none ∨ v.ownBlock ≠ row) : OwnM w' B v C :=
  World.ownsRow.kept h hg hne
theorem OwnM.form {w : World} {B : Nat} {v : Value} {C : List Bool} (h : OwnM w B v C) :
    (v = .slice none 0 0 ∧ C = []) ∨ ∃ g c, v = .slice (some ⟨g, 0, none⟩) C.length c ∧ B ≤ g ∧ g < w.heap.size ∧ C.length ≤ c ∧ c ≤ maxLen ∧ (∀ k x, C[k]? = some x → w.cell? ⟨g, k, none⟩ = some (.bool x)) ∧ ∀ i, w.frozen? ⟨g, i, none⟩ = false := by
  rcases h.2 with ⟨rfl, hn⟩ | ⟨g, cap, cur, rfl, hb, hg, hn, hc, hs, ht⟩
  · exact .inl ⟨rfl, List.eq_nil_of_length_eq_zero hn⟩
  · refine .inr ⟨g, cap, rfl, hb, (Array.getElem?_eq_some_iff.1 hg).1, hn, hc, fun k x hk => ?_, fun i => World.ownsRow.frozenAt h i⟩
    have hk' : k < C.length := (List.getElem?_eq_some_iff.1 hk).1
    rw [World.ownsRow.cellAt (cap := cap) h k (by omega), List.getElem?_map, hk]
    rfl
theorem OwnM.cells {w : World} {B g c n : Nat} {C : List Bool} (h : OwnM w B (.slice (some ⟨g, 0, none⟩) n c) C) : (∀ k x, C[k]? = some x → w.cell? ⟨g, k, none⟩ = some (.bool x)) ∧ ∀ i, w.frozen? ⟨g, i, none⟩ = false := by
  rcases h.form with ⟨h, _⟩ | ⟨g', cc, h, _, _, _, _, hat, hf⟩
  · cases h
  · injection h with h
    injection h with h
    injection h with h
    subst h
    exact ⟨hat, hf⟩
theorem OwnM.rd {w : World} {B : Nat} {v : Value} {C : List Bool} (h : OwnM w B v C) (hl : C.length ≤ 65536) : ∃ a c, v = .slice a C.length c ∧ RdM w a C := by
  rcases h.form with ⟨rfl, rfl⟩ | ⟨g, c, rfl, _, _, _, _, hat, _⟩
  · exact ⟨_, _, rfl, by simp, .inl rfl⟩
  · exact ⟨_, _, rfl, hl, .inr ⟨g, 0, rfl, fun k x hk => by rw [Nat.zero_add]; exact hat k x hk⟩⟩
theorem OwnM.set {w : World} {B g c n : Nat} {C : List Bool} (hn : n = C.length) (h : OwnM w B (.slice (some ⟨g, 0, none⟩) n c) C) (k : Nat) (x : Bool) :
    OwnM (w.setCell ⟨g, k, none⟩ (.bool x)) B (.slice (some ⟨g, 0, none⟩) n c) (C.set k x) ∧ w.grownBy (w.setCell ⟨g, k, none⟩ (.bool x)) (some g) := by
  subst hn
  obtain ⟨s1, g1⟩ := World.ownsRow.stored h k (.bool x)
  refine ⟨?_, g1⟩
  unfold OwnM
  rw [List.length_set, List.map_set]
  exact s1
theorem made_bools (n : Nat) : (madeCells (Value.bool false).cells (n * 1)).toList = (List.replicate n false).map (Value.bool) := by
  apply List.ext_getElem
  · simp [madeCells]
  · intro i h1 h2
    simp [madeCells, Value.cells, Nat.mod_one]
/-- A row out of make. -/
theorem OwnM.made {w : World} {B : Nat} {v : Value} {n : Nat} (h : w.ownsRow B 4 1 v n (madeCells (Value.bool false).cells (n * 1)).toList) : OwnM w B v (List.replicate n false) := by
  unfold OwnM
  rw [List.length_replicate, ← made_bools]
  exact h
theorem OwnM.away {w : World} {B : Nat} {v : Value} {C : List Bool} (h : OwnM w B v C) (a : Addr) (u : Value) (hne : v.ownBlock ≠ some a.block) : OwnM (w.setCell a u) B v C :=
  h.other (grown_setCell w a u) (.inr hne)
theorem getD_someM (D : List Bool) (p : Nat) (hp : p < D.length) : D[p]? = some (D.getD p false) := by
  rw [List.getD_eq_getElem?_getD, List.getElem?_eq_getElem hp]; rfl
/-- make([]int, n). -/
theorem wpList_make_M (w : World) {ops : Array Oper} {rest : List Oper} {o : Oper} {a : Act} {Q : Exit → Act → World → Prop}
    (hg : o.guard = none) (l c : Operand) (t : TypeId) (hop : o.op = Op.makeSlice t l c) (h1 : Try.prog.underlying t = some (.slice 4)) (kl kc : IntKind) (n : Nat) (hl : a.eval l = .int kl n) (hc : a.eval c = .int kc n) (hn : n ≤ 65536) (B G : Nat) (hG : w.heap.size = G) (hB : B ≤ G)
    (hK : ∀ w', OwnM w' B (.slice (some ⟨G, 0, none⟩) n n) (List.replicate n false) → Below w.heap.size w w' → G < w'.heap.size → wpList Try.prog ops Q rest (a.put o.dst (.slice (some ⟨G, 0, none⟩) n n)) w') :
    wpList Try.prog ops Q (o :: rest) a w := by
  subst hG
  obtain ⟨i0, hi, hz0, hz1, hz2⟩ := info_parts infoM
  refine wpList_make_full w hg l c t hop B 4 i0 (.bool false) 1 h1 hi hz0 hz1 kl kc n n n hl hc rfl rfl (by rw [hz2]; omega) (by unfold maxLen; omega) hB fun w' ho hgr => ?_
  refine hK w' (OwnM.made ho) (grown_below hgr) ?_
  rcases ho.2 with ⟨h, _⟩ | ⟨g, cap, cur, h, _, hgg, _⟩
  · cases h
  · injection h with h
    injection h with h
    injection h with h
    subst h
    exact (Array.getElem?_eq_some_iff.1 hgg).1
/-- copy of all counts into a row of the call's own. -/
theorem wpList_copy_M (w : World) {ops : Array Oper} {rest : List Oper} {o : Oper} {a : Act} {Q : Exit → Act → World → Prop}
    (hgd : o.guard = none) (d s : Operand) (dT sT : TypeId) (ho : o.op = .call { callee := .builtin .copy, args := #[d, s], argTypes := #[dT, sT] }) (hu : Try.prog.underlying dT = some (.slice 4))
    (B g n cap : Nat) (D C : List Bool) (sp : Option Addr) (sc : Nat) (hd : a.eval d = .slice (some ⟨g, 0, none⟩) n cap) (hs : a.eval s = .slice sp n sc) (hown : OwnM w B (.slice (some ⟨g, 0, none⟩) n cap) D) (hD : D.length = n) (hC : C.length = n) (hr : RdM w sp C)
    (h : ∀ w', OwnM w' B (.slice (some ⟨g, 0, none⟩) n cap) C → w.grownBy w' (some g) → wpList Try.prog ops Q rest (a.put o.dst (goInt n)) w') :
    wpList Try.prog ops Q (o :: rest) a w := by
  have hsz : (Try.prog.info? 4).map (·.size) = some 1 := by kernel_rfl
  subst hC
  by_cases h0 : C.length = 0
  · refine wpList_copy_nothing hgd d s dT sT ho 4 hu hsz _ _ _ _ _ _ hd hs (by simp [h0]) ?_
    obtain rfl : C = [] := List.eq_nil_of_length_eq_zero h0
    obtain rfl : D = [] := List.eq_nil_of_length_eq_zero hD
    exact h w hown ⟨rfl, rfl, rfl, Nat.le_refl _, fun _ _ _ => rfl⟩
  · obtain ⟨b, off, rfl, hat⟩ := hr.at (by omega)
    rcases hown.2 with ⟨hv, _⟩ | ⟨g', cap', cur, hv, hbg, hg, hnc, hcm, hcs, htake⟩
    · cases hv
    · injection hv with e1 e2 e3
      injection e1 with e1
      injection e1 with e1
      subst e1 e3
      refine wpList_copy_own hgd d s dT sT ho 4 hu hsz g 0 _ _ ⟨b, off, none⟩ _ _ hd hs cur 4 hg (C.map (Value.bool)) (by simp) (fun j v hj => ?_) (by rw [List.length_map]; omega) (fun v hv => ?_) ?_
      · rw [List.getElem?_map] at hj
        obtain ⟨x, hx, rfl⟩ := Option.map_eq_some_iff.1 hj
        have := hat j x hx
        by_cases hj0 : j = 0
        · subst hj0; simpa [Addr.add] using this
        · simpa [Addr.add, hj0] using this
      · obtain ⟨x, _, rfl⟩ := List.mem_map.1 hv
        rfl
      · rw [List.length_map]
        refine h _ ⟨by simp, .inr ⟨g, cap, _, rfl, hbg, setRow_heap w g _ _ _ _ hg, by omega, hcm, ?_, ?_⟩⟩ ⟨rfl, rfl, rfl, by simp [World.setRow], fun k _ hk => setRow_other w g k _ (fun e => hk (by simp [e]))⟩
        · simp; omega
        · simp
theorem RdM.source {w : World} {a : Option Addr} {C : List Bool} (h : RdM w a C) : w.source 1 a C.length (C.map (Value.bool)) := by
  refine ⟨by simp, fun u hu => by obtain ⟨x, _, rfl⟩ := List.mem_map.1 hu; rfl, ?_⟩
  rcases h.2 with rfl | ⟨b, o, rfl, hat⟩
  · cases a with
    | none => exact .inl ⟨rfl, rfl⟩
    | some ad => exact .inr ⟨ad, rfl, fun j u hu => by simp at hu⟩
  · refine .inr ⟨_, rfl, fun j u hu => ?_⟩
    rw [List.getElem?_map] at hu
    obtain ⟨x, hx, rfl⟩ := Option.map_eq_some_iff.1 hu
    have := hat j x hx
    by_cases hj0 : j = 0
    · subst hj0; simpa [Addr.add] using this
    · simpa [Addr.add, hj0] using this
theorem OwnM.empty (w : World) (B : Nat) (hB : B ≤ w.heap.size) : OwnM (w.alloc (.cells #[] 4)) B (.slice (some ⟨w.heap.size, 0, none⟩) 0 0) [] :=
  World.ownsRow_lit w #[] 0 hB (by simp) rfl
theorem OwnM.append {w : World} {B n : Nat} {v : Value} {C D : List Bool} (h : w.ownsRow B 4 1 v n (C.map (Value.bool) ++ D.map (Value.bool))) (hn : n = C.length + D.length) : OwnM w B v (C ++ D) := by
  subst hn
  unfold OwnM
  rw [List.map_append, List.length_append]
  exact h
end Go.Proofs.Ytolhajkbamhdgaa
