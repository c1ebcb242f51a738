/-
  Rows of bands and of found entries in memory.
  Conditions: as each theorem says.
-/
import Derived.Test.YtbiecglooagmmaaScH
namespace Go.Proofs.Ytbiecglooagmmaa
set_option linter.unusedSimpArgs false
set_option linter.unusedVariables false
set_option maxRecDepth 100000
open Go.RowKit

theorem sflat_get {α : Type} (f : α → List Value) (m : Nat) (hm : ∀ x, (f x).length = m) (l : List α) : ∀ (k : Nat) (x : α), l[k]? = some x → ∀ j, j < m → (l.flatMap f)[k * m + j]? = (f x)[j]? := by
  induction l with
  | nil => intro k x hk; simp at hk
  | cons y r ih =>
    intro k x hk j hj
    rw [List.flatMap_cons]
    cases k with
    | zero =>
      simp at hk
      subst hk
      rw [Nat.zero_mul, Nat.zero_add, List.getElem?_append_left (by rw [hm]; exact hj)]
    | succ k =>
      have := ih k x (by simpa using hk) j hj
      rw [← this, List.getElem?_append_right (by rw [hm, Nat.succ_mul]; omega), hm, Nat.succ_mul]
      congr 1
      omega
theorem sflat_len {α : Type} (f : α → List Value) (m : Nat) (hm : ∀ x, (f x).length = m) (l : List α) : (l.flatMap f).length = l.length * m := by
  induction l with
  | nil => simp
  | cons y r ih => rw [List.flatMap_cons, List.length_append, ih, hm, List.length_cons, Nat.succ_mul]; omega

/-! ### Bands -/
structure BAt (W : World) (g k : Nat) (x : Bd) : Prop where
  c0 : W.cell? ⟨g, k * 4, none⟩ = some (.int .i64 x.used)
  c1 : W.cell? ⟨g, k * 4 + 1, none⟩ = some (.int .i64 x.live)
  c2 : W.cell? ⟨g, k * 4 + 2, none⟩ = some (.int .u64 x.age)
  c3 : W.cell? ⟨g, k * 4 + 3, none⟩ = some (.int .u64 x.wear)
/-- The block g holds these bands. -/
structure BdR (W : World) (g : Nat) (L : List Bd) : Prop where
  at_ : ∀ k x, L[k]? = some x → BAt W g k x
  fz : ∀ i, W.frozen? ⟨g, i, none⟩ = false
  lt : g < W.heap.size
theorem BAt.keep {W W' : World} {g k : Nat} {x : Bd} (h : BAt W g k x) (hb : Below W.heap.size W W') : BAt W' g k x := ⟨hb.keep h.c0, hb.keep h.c1, hb.keep h.c2, hb.keep h.c3⟩
theorem BdR.keep {W W' : World} {g : Nat} {L : List Bd} (h : BdR W g L) (hb : Below W.heap.size W W') : BdR W' g L :=
  ⟨fun k x hk => (h.at_ k x hk).keep hb, fun i => (hb.frozen (p := ⟨g, i, none⟩) h.lt).trans (h.fz i), Nat.lt_of_lt_of_le h.lt hb.size⟩
theorem BdR.other {W W' : World} {g : Nat} {L : List Bd} (h : BdR W g L) {row : Option Nat} (hg : W.grownBy W' row) (hne : row ≠ some g) : BdR W' g L := by
  have hh : W'.heap[g]? = W.heap[g]? := hg.block g h.lt (Ne.symm hne)
  have hc : ∀ i, W'.cell? ⟨g, i, none⟩ = W.cell? ⟨g, i, none⟩ := fun i => by unfold World.cell?; rw [hh]
  have hf : ∀ i, W'.frozen? ⟨g, i, none⟩ = W.frozen? ⟨g, i, none⟩ := fun i => by unfold World.frozen?; rw [hh]
  exact ⟨fun k x hk => ⟨(hc _).trans (h.at_ k x hk).c0, (hc _).trans (h.at_ k x hk).c1, (hc _).trans (h.at_ k x hk).c2, (hc _).trans (h.at_ k x hk).c3⟩, fun i => (hf i).trans (h.fz i), Nat.lt_of_lt_of_le h.lt hg.size⟩
theorem BdR.setCell {W : World} {g j f : Nat} {L : List Bd} (h : BdR W g L) (hf : f < 4) {v : Value} {m : Bd → Bd} (hj : j < L.length)
    (h0 : ∀ x, Value.int .i64 (m x).used = if f = 0 then v else Value.int .i64 x.used) (h1 : ∀ x, Value.int .i64 (m x).live = if f = 1 then v else Value.int .i64 x.live)
    (h2 : ∀ x, Value.int .u64 (m x).age = if f = 2 then v else Value.int .u64 x.age) (h3 : ∀ x, Value.int .u64 (m x).wear = if f = 3 then v else Value.int .u64 x.wear) : BdR (W.setCell ⟨g, j * 4 + f, none⟩ v) g (L.modify j m) := by
  have hex := h.at_ j _ (List.getElem?_eq_getElem hj)
  have old : ∃ u, W.cell? ⟨g, j * 4 + f, none⟩ = some u := by
    match f, hf with
    | 0, _ => exact ⟨_, hex.c0⟩
    | 1, _ => exact ⟨_, hex.c1⟩
    | 2, _ => exact ⟨_, hex.c2⟩
    | 3, _ => exact ⟨_, hex.c3⟩
  obtain ⟨u, hu⟩ := old
  have same : (W.setCell ⟨g, j * 4 + f, none⟩ v).cell? ⟨g, j * 4 + f, none⟩ = some v := World.cell?_setCell_same _ _ _ hu
  have oth : ∀ i, i ≠ j * 4 + f → (W.setCell ⟨g, j * 4 + f, none⟩ v).cell? ⟨g, i, none⟩ = W.cell? ⟨g, i, none⟩ := fun i hi => World.cell?_setCell_other _ _ _ _ (fun e => hi (Addr.mk.inj e).2.1.symm)
  refine ⟨fun k x hk => ?_, fun i => by rw [World.frozen?_setCell]; exact h.fz i, by rw [World.size_setCell]; exact h.lt⟩
  rw [List.getElem?_modify] at hk
  by_cases e : j = k
  · subst e
    rw [List.getElem?_eq_getElem hj] at hk
    simp only [if_true, Option.map_eq_map, Option.map_some, Option.some.injEq] at hk
    subst hk
    refine ⟨?_, ?_, ?_, ?_⟩
    · rw [h0]
      split
      · rename_i e; subst e; exact same
      · rw [oth _ (by omega)]; exact hex.c0
    · rw [h1]
      split
      · rename_i e; subst e; exact same
      · rw [oth _ (by omega)]; exact hex.c1
    · rw [h2]
      split
      · rename_i e; subst e; exact same
      · rw [oth _ (by omega)]; exact hex.c2
    · rw [h3]
      split
      · rename_i e; subst e; exact same
      · rw [oth _ (by omega)]; exact hex.c3
  · cases hq : L[k]? with
    | none => rw [hq] at hk; cases hk
    | some y =>
      rw [hq] at hk
      simp only [e, if_false, Option.map_eq_map, Option.map_some, id_eq, Option.some.injEq] at hk
      subst hk
      have hy := h.at_ k _ hq
      exact ⟨(oth _ (by omega)).trans hy.c0, (oth _ (by omega)).trans hy.c1, (oth _ (by omega)).trans hy.c2, (oth _ (by omega)).trans hy.c3⟩
theorem BdR.used {W : World} {g j : Nat} {L : List Bd} (h : BdR W g L) (hj : j < L.length) (u : Int) : BdR (W.setCell ⟨g, j * 4, none⟩ (.int .i64 u)) g (L.modify j fun x => ⟨u, x.live, x.age, x.wear⟩) :=
  h.setCell (f := 0) (by omega) hj (fun _ => rfl) (fun _ => rfl) (fun _ => rfl) (fun _ => rfl)
theorem BdR.live {W : World} {g j : Nat} {L : List Bd} (h : BdR W g L) (hj : j < L.length) {x : Bd} (hx : L[j]? = some x) : BdR (W.setCell ⟨g, j * 4 + 1, none⟩ (.int .i64 (x.live + 1))) g (L.modify j incB) := by
  have : L.modify j incB = L.modify j fun y => ⟨y.used, x.live + 1, y.age, y.wear⟩ := by
    apply List.ext_getElem?
    intro i
    rw [List.getElem?_modify, List.getElem?_modify]
    by_cases e : j = i
    · subst e
      rw [hx]
      rfl
    · simp only [e, if_false]
  rw [this]
  exact h.setCell (f := 1) (by omega) hj (fun _ => rfl) (fun _ => rfl) (fun _ => rfl) (fun _ => rfl)
theorem BdR.age {W : World} {g j : Nat} {L : List Bd} (h : BdR W g L) (hj : j < L.length) (u : Int) : BdR (W.setCell ⟨g, j * 4 + 2, none⟩ (.int .u64 u)) g (L.modify j fun x => ⟨x.used, x.live, u, x.wear⟩) :=
  h.setCell (f := 2) (by omega) hj (fun _ => rfl) (fun _ => rfl) (fun _ => rfl) (fun _ => rfl)
def Bd.cells (x : Bd) : List Value := [.int .i64 x.used, .int .i64 x.live, .int .u64 x.age, .int .u64 x.wear]
abbrev Bd.v (x : Bd) : Value := .agg #[.int .i64 x.used, .int .i64 x.live, .int .u64 x.age, .int .u64 x.wear]
def zeroBd : Bd := ⟨0, 0, 0, 0⟩
theorem infoBd : (Try.prog.info? 46).map (fun i => (i.zero, i.size, i.bytes)) = some (some zeroBd.v, 4, 32) := by kernel_rfl
theorem BdR.of_own {W : World} {B g n : Nat} {L : List Bd} (h : W.ownsRow B 46 4 (.slice (some ⟨g, 0, none⟩) L.length n) L.length (L.flatMap Bd.cells)) : BdR W g L := by
  have c := fun j hj => World.ownsRow.cellAt (cap := n) h j hj
  refine ⟨fun k x hk => ?_, fun i => World.ownsRow.frozenAt h i, (World.ownsRow.lt h g rfl).2⟩
  have hk' : k < L.length := (List.getElem?_eq_some_iff.1 hk).1
  have f := fun j hj => sflat_get Bd.cells 4 (fun _ => rfl) L k x hk j hj
  refine ⟨?_, ?_, ?_, ?_⟩
  · rw [c _ (by omega)]; exact f 0 (by omega)
  · rw [c _ (by omega)]; exact f 1 (by omega)
  · rw [c _ (by omega)]; exact f 2 (by omega)
  · rw [c _ (by omega)]; exact f 3 (by omega)
theorem made_bands (n : Nat) : (madeCells zeroBd.v.cells (n * 4)).toList = (List.replicate n zeroBd).flatMap Bd.cells := by
  apply List.ext_getElem
  · rw [sflat_len _ 4 (fun _ => rfl)]
    simp [madeCells]
  · intro i h1 h2
    have h3 : i < n * 4 := by simpa [madeCells] using h1
    have hg := sflat_get Bd.cells 4 (fun _ => rfl) (List.replicate n zeroBd) (i / 4) zeroBd (by rw [List.getElem?_replicate, if_pos (by omega)]) (i % 4) (Nat.mod_lt _ (by omega))
    rw [show i / 4 * 4 + i % 4 = i by omega, List.getElem?_eq_getElem h2] at hg
    have hi : i % 4 < 4 := Nat.mod_lt _ (by omega)
    simp only [madeCells, Value.cells, Array.toList_map, List.getElem_map, Array.toList_range, List.getElem_range]
    show (#[Value.int .i64 0, .int .i64 0, .int .u64 0, .int .u64 0] : Array Value)[i % 4]! = _
    generalize i % 4 = k at hi hg
    match k, hi with
    | 0, _ => exact (Option.some.inj hg).symm
    | 1, _ => exact (Option.some.inj hg).symm
    | 2, _ => exact (Option.some.inj hg).symm
    | 3, _ => exact (Option.some.inj hg).symm
/-- make([]api.BandInfo, n). -/
theorem wpList_make_bd (w : World) {ops : Array Oper} {rest : List Oper} {o : Oper} {a : Act} {Q : Exit → Act → World → Prop}
    (hg : o.guard = none) (l c : Operand) (t : TypeId) (hop : o.op = Op.makeSlice t l c) (h1 : Try.prog.underlying t = some (.slice 46)) (kl kc : IntKind) (n : Nat) (hl : a.eval l = .int kl n) (hc : a.eval c = .int kc n) (hn : n ≤ 65536) (G : Nat) (hG : w.heap.size = G)
    (hK : ∀ w', BdR w' G (List.replicate n ⟨0, 0, 0, 0⟩) → Below w.heap.size w w' → wpList Try.prog ops Q rest (a.put o.dst (.slice (some ⟨G, 0, none⟩) n n)) w') :
    wpList Try.prog ops Q (o :: rest) a w := by
  subst hG
  obtain ⟨i0, hi, hz0, hz1, hz2⟩ := info_parts infoBd
  refine wpList_make_full w hg l c t hop w.heap.size 46 i0 zeroBd.v 4 h1 hi hz0 hz1 kl kc n n n hl hc rfl rfl (by rw [hz2]; omega) (by unfold maxLen; omega) (Nat.le_refl _) fun w' ho hgr => ?_
  refine hK w' (BdR.of_own (B := w.heap.size) (n := n) ?_) ⟨hgr.os, hgr.tape, hgr.output, hgr.size, fun k hk => hgr.block k hk (by simp)⟩
  rw [made_bands] at ho
  rw [List.length_replicate]
  exact ho
end Go.Proofs.Ytbiecglooagmmaa
