/-
  slices.IndexFunc with Put's function, slices.Insert of one extent.
  Conditions: as each theorem says.
-/
import Derived.Test.YtcalianponiioaaTgK
import Derived.Test.YtcalianponiioaaTgL
import Derived.Test.YtcalianponiioaaTgT
namespace Go.Proofs.Ytcalianponiioaa
set_option linter.unusedSimpArgs false
set_option linter.unusedVariables false
open Go.RowKit

set_option maxHeartbeats 1000000 in
theorem insert_end (v : Value) (R : List E) (x : E) (B h d : Nat) (w : World) (hown : OwnE w B v R) (hB : B ≤ w.heap.size) (hl : R.length ≤ 100000000)
    (hx : At w h 0 0 x) :
    Calls Try.prog 38 #[v, .int .i64 R.length, .slice (some ⟨h, 0, none⟩) 1 d] w (Pushed w B v (R ++ [x])) := by
  obtain ⟨i0, hi, hz0, hz1, hz2⟩ := info_parts infoE
  have HS := Lib.hid (Rd.source (l := [x]) ⟨by simp, .inr ⟨h, 0, rfl, fun k y hk => by
    cases k with
    | zero => simp at hk; subst hk; exact hx
    | succ k => simp at hk⟩⟩)
  obtain ⟨a, c, rfl, hr⟩ := hown.rd (by omega)
  have hcc : R.length ≤ c := by
    rcases hown.form with ⟨h1, h2⟩ | ⟨g, c', h1, _, _, h2, _⟩
    · rw [h2]; simp
    · simp only [Value.slice.injEq] at h1; rw [h1.2.2]; exact h2
  have HO := Lib.hid hown
  clear hr hx hown
  by_cases hck : c = R.length
  · subst hck
    go_enter Try.func38, Try.ntmps38
    go_wp2_with (at_builtin; refine wpList_append_xs _ rfl (.tmp 23) (.tmp 24) 22 rfl B 33 i0 (.agg #[.int .i64 0, .int .i64 0, .int .i64 0]) 3 24 Try.underlying22 hi hz0 hz1 hz2 rfl (by decide) _ _ _ rfl HO.out _ _ _ _ rfl HS.out (by first | omega | (simp only [List.length_nil, List.length_append, List.length_cons]; omega)) (by first | (simp only [maxLen]; omega) | (simp only [maxLen, List.length_nil, List.length_append, List.length_cons]; omega)) (by first | omega | (simp only [World.size_alloc]; omega)) ?_; intro v1 w1 hown1 hgrow1 hwhere1; skip)
    go_ret
    exact ⟨v1, rfl, OwnE.append hown1 (by simp), hgrow1, hwhere1.imp id fun h => ⟨_, h, Nat.le_refl _⟩⟩
  · go_enter Try.func38, Try.ntmps38
    go_wp2_with (at_builtin; refine wpList_append_xs _ rfl (.tmp 23) (.tmp 24) 22 rfl B 33 i0 (.agg #[.int .i64 0, .int .i64 0, .int .i64 0]) 3 24 Try.underlying22 hi hz0 hz1 hz2 rfl (by decide) _ _ _ rfl HO.out _ _ _ _ rfl HS.out (by first | omega | (simp only [List.length_nil, List.length_append, List.length_cons]; omega)) (by first | (simp only [maxLen]; omega) | (simp only [maxLen, List.length_nil, List.length_append, List.length_cons]; omega)) (by first | omega | (simp only [World.size_alloc]; omega)) ?_; intro v1 w1 hown1 hgrow1 hwhere1; skip)
    go_ret
    exact ⟨v1, rfl, OwnE.append hown1 (by simp), hgrow1, hwhere1.imp id fun h => ⟨_, h, Nat.le_refl _⟩⟩

/-- What an owned list is, its whole block with it. -/
theorem OwnE.whole {w : World} {B : Nat} {v : Value} {l : List E} (h : OwnE w B v l) (h0 : 0 < l.length) : ∃ g c T, v = .slice (some ⟨g, 0, none⟩) l.length c ∧ B ≤ g ∧ l.length ≤ c ∧ c ≤ maxLen ∧ (cellsL l ++ T).length = c * 3 ∧ w.heap[g]? = some (.cells (cellsL l ++ T).toArray 33 (0, 0)) := by
  rcases h.2 with ⟨_, h2⟩ | ⟨g, cap, cur, rfl, hb, hg, hn, hc, hs, ht⟩
  · omega
  · refine ⟨g, cap, cur.toList.drop (l.length * 3), rfl, hb, hn, hc, ?_, ?_⟩
    · rw [← ht, List.take_append_drop]; simpa using hs
    · rw [← ht, List.take_append_drop]; simpa using hg
theorem OwnE.of_row {w : World} {B g c : Nat} {L : List Value} {l : List E} (hg : w.heap[g]? = some (.cells L.toArray 33 (0, 0))) (hB : B ≤ g) (hc : c ≤ maxLen) (hn : l.length ≤ c) (hL : L.length = c * 3) (ht : L.take (l.length * 3) = cellsL l) :
    OwnE w B (.slice (some ⟨g, 0, none⟩) l.length c) l :=
  ⟨cellsL_length l, .inr ⟨g, c, L.toArray, rfl, hB, hg, hn, hc, by simpa using hL, by simpa using ht⟩⟩
theorem cell_row {w : World} {g : Nat} {L : List Value} {t : TypeId} (hg : w.heap[g]? = some (.cells L.toArray t (0, 0))) (j : Nat) : w.cell? ⟨g, j, none⟩ = L[j]? := by
  simp [World.cell?, hg]
/-- Cells of a row from a place on. -/
theorem cells_from_row {w : World} {g off : Nat} {L : List Value} {t : TypeId} (cs : List Value) (hg : w.heap[g]? = some (.cells L.toArray t (0, 0))) (h : ∀ j v, cs[j]? = some v → L[off + j]? = some v) :
    ∀ j v, cs[j]? = some v → w.cell? ((⟨g, off, none⟩ : Addr).add j) = some v := by
  intro j v hj
  have hadd : (⟨g, off, none⟩ : Addr).add j = ⟨g, off + j, none⟩ := by unfold Addr.add; split <;> simp_all
  rw [hadd, cell_row hg, h j v hj]

theorem sem_pure_bind {α β : Type} (d : α) (f : α → Sem β) : (pure d : Sem α).bind f = f d := rfl
theorem run_overlaps (w : World) (h g oh og lh lg c1 c2 : Nat) (ch cg : Array Value) (hh : w.heap[h]? = some (.cells ch 33 (0, 0))) (hg : w.heap[g]? = some (.cells cg 33 (0, 0))) (hne : h ≠ g) :
    (callFunc 46 #[.slice (some ⟨h, oh, none⟩) lh c1, .slice (some ⟨g, og, none⟩) lg c2]).run Try.prog w = .ok (.value (.bool false)) w := by
  obtain ⟨i0, hi, hz0, hz1, hz2⟩ := info_parts infoE
  rw [run_callFunc_extern Try.func46 (by kernel_rfl) (by kernel_rfl) (by kernel_rfl) (e := Extern.SlicesOverlaps.overlaps #[22, 22] #[4]) (by kernel_rfl)]
  have s1 : w.shape? h = some (33, ch.size) := by simp [World.shape?, hh]
  have s2 : w.shape? g = some (33, cg.size) := by simp [World.shape?, hg]
  have f1 : ∀ j, w.frozen? ⟨h, j, none⟩ = false := fun j => by simp [World.frozen?, hh]
  have f2 : ∀ j, w.frozen? ⟨g, j, none⟩ = false := fun j => by simp [World.frozen?, hg]
  unfold Extern.SlicesOverlaps.overlaps
  conv => lhs; arg 1; arg 2; whnf
  have hne' : (h != g) = true := by simpa using hne
  have hne2 : (h == g) = false := by simpa using hne
  by_cases hz : lh = 0 ∨ lg = 0
  · simp [Sem.run, sem_pure_bind, Sem.bind, Try.underlying22, sizeOf, typeInfo, hi, hz1, hz, Result.andThen]
  · obtain ⟨hza, hzb⟩ : ¬ lh = 0 ∧ ¬ lg = 0 := by omega
    simp [Sem.run, sem_pure_bind, Sem.bind, Try.underlying22, sizeOf, typeInfo, hi, hz1, hza, hzb, Result.andThen, noView, viewAt, mayBeOne, stringish, frozen, shape, f1, f2, s1, s2, hne', hne2, hne]
theorem splice_at {α : Type} (A B C : List α) (k : Nat) (hk : A.length = k) : splice (A ++ B) k C = A ++ (C ++ B.drop C.length) := by
  subst hk
  unfold splice
  rw [List.take_left, List.drop_append]
  simp
theorem splice_in {α : Type} (A D T X : List α) (k m : Nat) (hk : A.length = k) (hm : X.length = m) (hT : m ≤ T.length) :
    splice (splice (A ++ (D ++ T)) (k + m) D) k X = A ++ (X ++ (D ++ T.drop m)) := by
  subst hk; subst hm
  have e : A ++ (D ++ T) = (A ++ (D ++ T).take X.length) ++ (D ++ T).drop X.length := by rw [List.append_assoc, List.take_append_drop]
  rw [e, splice_at _ _ _ _ (by simp; omega), List.append_assoc, splice_at _ _ _ _ rfl]
  congr 2
  have h1 : ((D ++ T).take X.length).length = X.length := by simp; omega
  rw [List.drop_append, h1, Nat.sub_self, List.drop_zero, List.drop_eq_nil_of_le (by omega), List.nil_append]
  congr 1
  rw [List.drop_drop, List.drop_append, List.drop_eq_nil_of_le (by omega), List.nil_append]
  congr 1
  omega
theorem cellsL_split (R : List E) (i : Nat) : cellsL R = cellsL (R.take i) ++ cellsL (R.drop i) := by
  rw [← cellsL_append, List.take_append_drop]
theorem cellsL_insert (R : List E) (i : Nat) (x : E) : cellsL (insertAt R i x) = cellsL (R.take i) ++ (x.cells ++ cellsL (R.drop i)) := by
  unfold insertAt
  rw [cellsL_append, cellsL_append]
  have : cellsL [x] = x.cells := by simp [cellsL]
  rw [this]
theorem insertAt_length (R : List E) (i : Nat) (x : E) (hi : i ≤ R.length) : (insertAt R i x).length = R.length + 1 := by
  unfold insertAt; simp; omega
theorem room_row (R : List E) (i : Nat) (x : E) (T : List Value) (hi : i < R.length) (hT : 3 ≤ T.length) :
    splice (splice (cellsL R ++ T) ((i + 1) * 3) (cellsL (R.drop i))) (i * 3) x.cells = cellsL (insertAt R i x) ++ T.drop 3 := by
  have hk : (cellsL (R.take i)).length = i * 3 := by rw [cellsL_length, List.length_take, Nat.min_eq_left (by omega)]
  rw [cellsL_split R i, List.append_assoc, show (i + 1) * 3 = i * 3 + 3 by omega, splice_in _ _ _ x.cells _ 3 hk rfl hT, cellsL_insert]
  simp
set_option maxRecDepth 100000 in
set_option maxHeartbeats 1000000 in
theorem insert_room (R : List E) (i : Nat) (x : E) (B h d g c : Nat) (T : List Value) (w : World) (hBg : B ≤ g) (hgw : w.heap[g]? = some (.cells (cellsL R ++ T).toArray 33 (0, 0))) (hL : (cellsL R ++ T).length = c * 3) (hcm : c ≤ maxLen)
    (hi0 : i < R.length) (hroom : R.length + 1 ≤ c) (hl : R.length ≤ 100000000) (hh : w.heap[h]? = some (.cells #[.int .i64 x.a, .int .i64 x.n, .int .i64 x.s] 33 (0, 0))) (hne : h ≠ g) :
    Calls Try.prog 38 #[.slice (some ⟨g, 0, none⟩) R.length c, .int .i64 i, .slice (some ⟨h, 0, none⟩) 1 d] w (Pushed w B (.slice (some ⟨g, 0, none⟩) R.length c) (insertAt R i x)) := by
  obtain ⟨i0, hi, hz0, hz1, hz2⟩ := info_parts infoE
  have hnb : ((i : Int) == (R.length : Int)) = false := beq_eq_false_iff_ne.2 (by omega)
  have hcm' : c ≤ 9223372036854775807 := by unfold maxLen at hcm; omega
  have hrm : decide ((c : Int) < (R.length : Int) + 1) = false := by simp; omega
  have hk1 : ¬ c = i + 1 := by omega
  have hk2 : ¬ c = i := by omega
  go_enter Try.func38, Try.ntmps38
  have hov := fun oh og lh lg c1 c2 => run_overlaps w h g oh og lh lg c1 c2 _ _ hh hgw hne
  go_wp2_with fail
  have hT : 3 ≤ T.length := by rw [List.length_append, cellsL_length] at hL; omega
  have HG0 := Lib.hid hgw
  have HH0 := Lib.hid hh
  have hdl : (R.drop i).length = R.length - i := List.length_drop
  have hsplit := cellsL_split R i
  have hk : (cellsL (R.take i)).length = i * 3 := by rw [cellsL_length, List.length_take, Nat.min_eq_left (by omega)]
  have HC : Hid (∀ j v, (cellsL (R.drop i))[j]? = some v → (cellsL R ++ T)[i * 3 + j]? = some v) := Lib.hid (fun j v hj => by
    rw [hsplit, List.append_assoc, List.getElem?_append_right (by omega), hk, show i * 3 + j - i * 3 = j by omega]
    rw [List.getElem?_append_left (List.getElem?_eq_some_iff.1 hj).1, hj])
  have HLd : Hid ((cellsL (R.drop i)).length = (R.length - i) * 3) := Lib.hid (by rw [cellsL_length, hdl])
  have HSP : Hid (i * 3 + x.cells.length ≤ (splice (cellsL R ++ T) ((i + 1) * 3) (cellsL (R.drop i))).length) := Lib.hid (by
    rw [length_splice _ _ _ (by rw [HLd.out, List.length_append, cellsL_length]; omega), List.length_append, cellsL_length]
    show i * 3 + 3 ≤ _
    omega)
  have HRR := Lib.hid (room_row R i x T hi0 hT)
  have HIL := Lib.hid (insertAt_length R i x (by omega))
  have hgs : g < w.heap.size := (Array.getElem?_eq_some_iff.1 hgw).1
  have hhs : h < w.heap.size := (Array.getElem?_eq_some_iff.1 hh).1
  clear hov hgw hh hsplit hk
  refine wp_region_next_tail 8 (by kernel_rfl) (by kernel_rfl) ?_
  simp only [List.take_succ_cons, List.take_zero, List.drop_succ_cons, List.drop_zero]
  repeat (go_big_quiet_step (fail))
  refine wpQuiet_nil ?_
  intro _ hw'
  obtain ⟨nq, hw''⟩ := hw'
  subst hw''
  have HB1 := Lib.hid (World.below_next w nq)
  have HG1 := Lib.hid ((World.heap_next w nq g hgs).trans HG0.out)
  have HH1 := Lib.hid ((World.heap_next w nq h hhs).trans HH0.out)
  generalize w.next nq = W at *
  refine wpList_copy_k _ rfl (.tmp 73) (.tmp 76) 22 22 rfl 33 i0 3 Try.underlying22 hi hz1 g ((i + 1) * 3) (R.length - i) _ ⟨g, i * 3, none⟩ (R.length + 1 - i) _ rfl rfl (cellsL R ++ T) 33 (R.length - i) (cellsL (R.drop i)) HG1.out (Nat.min_eq_right (by omega)).symm HLd.out (cells_from_row _ HG1.out HC.out) (by rw [HLd.out, List.length_append, cellsL_length]; omega) (cellsL_one _) ?_
  intro w2 HG2 hgr2
  have HH2 := Lib.hid ((hgr2.block h (by have := HB1.out.size; omega) (by simp; exact hne)).trans HH1.out)
  have HGR2 := Lib.hid hgr2
  clear hgr2 HG1 HH1 HC HLd
  go_wp2_with (refine wpList_copy_k _ rfl (.tmp 80) (.tmp 81) 22 22 rfl 33 i0 3 Try.underlying22 hi hz1 g (i * 3) (R.length + 1 - i) _ ⟨h, 0, none⟩ 1 _ rfl rfl _ 33 1 x.cells HG2.out (Nat.min_eq_left (by omega)).symm rfl (cells_from_row _ HH2.out (fun j v hj => by rw [Nat.zero_add]; exact hj)) HSP.out (cellsE_one _) ?_; intro w3 HG3 hgr3)
  go_ret
  have h3 := HG3.out
  rw [HRR.out] at h3
  refine ⟨_, rfl, ?_, (HB1.out).grow ?_, .inl rfl⟩
  · have := OwnE.of_row (l := insertAt R i x) (c := c) h3 hBg hcm (by rw [HIL.out]; omega) (by
      have h4 := hL
      rw [List.length_append, cellsL_length] at h4 ⊢
      rw [HIL.out, List.length_drop]
      omega) (List.take_left' (cellsL_length _))
    rw [HIL.out] at this
    exact this
  · exact ⟨hgr3.os.trans HGR2.out.os, hgr3.tape.trans HGR2.out.tape, hgr3.output.trans HGR2.out.output, Nat.le_trans HGR2.out.size hgr3.size, fun k hk hne => (hgr3.block k (Nat.lt_of_lt_of_le hk HGR2.out.size) hne).trans (HGR2.out.block k hk hne)⟩

theorem grow_row (A Z X D : List Value) (k : Nat) (hk : A.length = k) (hX : X.length = 3) : splice (splice (A ++ Z) k X) (k + 3) D = A ++ (X ++ (D ++ (Z.drop 3).drop D.length)) := by
  rw [splice_at _ _ _ _ hk, ← List.append_assoc, hX, splice_at (A ++ X) _ _ _ (by rw [List.length_append, hk, hX]), List.append_assoc]
theorem grown_of_below {w w' : World} (h : Below w.heap.size w w') (row : Option Nat) : w.grownBy w' row := ⟨h.os, h.tape, h.output, h.size, fun k hk _ => h.block k hk⟩
set_option maxRecDepth 100000 in
set_option maxHeartbeats 1000000 in
theorem insert_grow (R : List E) (i : Nat) (x : E) (B h d g c : Nat) (T : List Value) (w : World) (hBw : B ≤ w.heap.size) (hgw : w.heap[g]? = some (.cells (cellsL R ++ T).toArray 33 (0, 0)))
    (hc : R.length ≤ c) (hi0 : i < R.length) (hroom : c < R.length + 1) (hl : R.length ≤ 100000000) (hh : w.heap[h]? = some (.cells #[.int .i64 x.a, .int .i64 x.n, .int .i64 x.s] 33 (0, 0))) :
    Calls Try.prog 38 #[.slice (some ⟨g, 0, none⟩) R.length c, .int .i64 i, .slice (some ⟨h, 0, none⟩) 1 d] w (Pushed w B (.slice (some ⟨g, 0, none⟩) R.length c) (insertAt R i x)) := by
  obtain ⟨i0, hi, hz0, hz1, hz2⟩ := info_parts infoE
  have hnb : ((i : Int) == (R.length : Int)) = false := beq_eq_false_iff_ne.2 (by omega)
  have hrm : decide ((c : Int) < (R.length : Int) + 1) = true := by simp; omega
  have hk2 : ¬ c = i := by omega
  obtain ⟨m, hm, hm1, hm2⟩ : ∃ m : Nat, (R.length : Int) + 1 - (i : Int) = (m : Int) ∧ 2 ≤ m ∧ i + m ≤ R.length + 1 := ⟨R.length + 1 - i, by omega, by omega, by omega⟩
  have hm3 : R.length + 1 ≤ i + m := by omega
  have hgs : g < w.heap.size := (Array.getElem?_eq_some_iff.1 hgw).1
  have hhs : h < w.heap.size := (Array.getElem?_eq_some_iff.1 hh).1
  have hsplit := cellsL_split R i
  have hk : (cellsL (R.take i)).length = i * 3 := by rw [cellsL_length, List.length_take, Nat.min_eq_left (by omega)]
  have hdl : (R.drop i).length = R.length - i := List.length_drop
  have HA : Hid (∀ j v, (cellsL (R.take i))[j]? = some v → (cellsL R ++ T)[0 + j]? = some v) := Lib.hid (fun j v hj => by
    rw [Nat.zero_add, hsplit, List.append_assoc, List.getElem?_append_left (List.getElem?_eq_some_iff.1 hj).1, hj])
  have HC : Hid (∀ j v, (cellsL (R.drop i))[j]? = some v → (cellsL R ++ T)[i * 3 + j]? = some v) := Lib.hid (fun j v hj => by
    rw [hsplit, List.append_assoc, List.getElem?_append_right (by omega), hk, show i * 3 + j - i * 3 = j by omega]
    rw [List.getElem?_append_left (List.getElem?_eq_some_iff.1 hj).1, hj])
  have HLd : Hid ((cellsL (R.drop i)).length = (R.length - i) * 3) := Lib.hid (by rw [cellsL_length, hdl])
  have HLa := Lib.hid hk
  have HG0 := Lib.hid hgw
  have HH0 := Lib.hid hh
  clear hsplit hk hdl hgw hh
  go_enter Try.func38, Try.ntmps38
  go_upto_region 10 with (at_builtin; refine wpList_append_made _ rfl (.tmp 34) (.tmp 39) 22 3 rfl 33 .i64 i0 (.agg #[.int .i64 0, .int .i64 0, .int .i64 0]) 3 Try.underlying22 Try.underlying3 hi hz0 hz1 rfl (by decide) ⟨g, 0, none⟩ i c (cellsL (R.take i)) rfl HLa.out (cells_from_row _ HG0.out HA.out) m rfl (by omega) (by omega) (by omega) (by omega) (by omega) ?_; intro cap Z w1 hcap1 hcap2 hZ HG1 hb1 hsz1)
  have hZ3 : 3 ≤ Z.length := by rw [List.length_append, HLa.out] at hZ; omega
  have hq1 : ¬ cap = i := by omega
  have hq2 : ¬ cap = i + 1 := by omega
  have hcm : cap ≤ 9223372036854775807 := by unfold maxLen at hcap2; omega
  have HZ := Lib.hid hZ
  have HB1 := Lib.hid hb1
  have HG0 := Lib.hid ((hb1.block g hgs).trans HG0.out)
  have HH0 := Lib.hid ((hb1.block h hhs).trans HH0.out)
  have HX := Lib.hid (show i * 3 + x.cells.length ≤ (cellsL (R.take i) ++ Z).length by rw [List.length_append, HLa.out]; show i * 3 + 3 ≤ _; omega)
  generalize hGG : w.heap.size = G at *
  clear hb1 hZ
  go_upto_region 11 with (refine wpList_copy_k _ rfl (.tmp 43) (.tmp 44) 22 22 rfl 33 i0 3 Try.underlying22 hi hz1 G (i * 3) m _ ⟨h, 0, none⟩ 1 _ rfl rfl _ 33 1 x.cells HG1.out (Nat.min_eq_left (by omega)).symm rfl (cells_from_row _ HH0.out (fun j v hj => by rw [Nat.zero_add]; exact hj)) HX.out (cellsE_one _) ?_; intro w2 HG2 hgr2)
  have HB2 := Lib.hid (HB1.out.trans (hgr2.below (Nat.le_refl _) (by omega)))
  have HG0 := Lib.hid ((hgr2.block g (by omega) (by simp; omega)).trans HG0.out)
  have hsz2 := hgr2.size
  clear hgr2 HG1 HH0 HX HA
  simp only [Act.put, List.setIfInBounds_toArray, List.set_cons_zero, List.set_cons_succ]
  refine wp_region_next_tail 8 (by kernel_rfl) (by kernel_rfl) ?_
  simp only [List.take_succ_cons, List.take_zero, List.drop_succ_cons, List.drop_zero]
  repeat (go_big_quiet_step (fail))
  refine wpQuiet_nil ?_
  intro _ hw'
  obtain ⟨nq, hw''⟩ := hw'
  subst hw''
  have HB3 := Lib.hid (HB2.out.trans ((World.below_next w2 nq).mono (by omega)))
  have HG3 := Lib.hid ((World.heap_next w2 nq G (by omega)).trans HG2.out)
  have HG0 := Lib.hid ((World.heap_next w2 nq g (by omega)).trans HG0.out)
  have hsz3 := World.size_next w2 nq
  have HRR := Lib.hid (grow_row (cellsL (R.take i)) Z x.cells (cellsL (R.drop i)) (i * 3) HLa.out rfl)
  have HSP : Hid (i * 3 + 3 + (cellsL (R.drop i)).length ≤ (splice (cellsL (R.take i) ++ Z) (i * 3) x.cells).length) := Lib.hid (by
    have h1 := HZ.out
    rw [List.length_append, HLa.out] at h1
    rw [length_splice _ _ _ (by rw [List.length_append, HLa.out]; show i * 3 + 3 ≤ _; omega), List.length_append, HLa.out, HLd.out]
    omega)
  generalize w2.next nq = W3 at *
  clear HG2 HB2
  refine wpList_copy_k _ rfl (.tmp 50) (.tmp 53) 22 22 rfl 33 i0 3 Try.underlying22 hi hz1 G ((i + 1) * 3) (i + m - (i + 1)) _ ⟨g, i * 3, none⟩ (R.length - i) _ rfl rfl _ 33 (R.length - i) (cellsL (R.drop i)) HG3.out (Nat.min_eq_left (by omega)).symm HLd.out (cells_from_row _ HG0.out HC.out) (by have := HSP.out; omega) (cellsL_one _) ?_
  intro w4 HG4 hgr4
  go_wp2_with fail
  go_ret
  have h4 := HG4.out
  rw [show (i + 1) * 3 = i * 3 + 3 by omega, HRR.out] at h4
  have hins := cellsL_insert R i x
  have hil := insertAt_length R i x (by omega)
  refine ⟨_, rfl, ?_, grown_of_below ?_ _, .inr ⟨G, rfl, by omega⟩⟩
  · rw [show i + m = (insertAt R i x).length by omega]
    refine OwnE.of_row (c := cap) h4 (by omega) hcap2 (by omega) ?_ ?_
    · have h1 := HZ.out
      rw [List.length_append, HLa.out] at h1
      simp only [List.length_append, List.length_drop, HLa.out, HLd.out, E.cells, List.length_cons, List.length_nil]
      omega
    · rw [← List.append_assoc, ← List.append_assoc, List.append_assoc (cellsL (R.take i)), ← hins]
      exact List.take_left' (cellsL_length _)
  · rw [hGG]
    exact HB3.out.trans (hgr4.below (Nat.le_refl _) (by omega))

/-- slices.Insert of one extent into an owned list. -/
theorem insert_any (v : Value) (R : List E) (i : Nat) (x : E) (B h d : Nat) (w : World) (hown : OwnE w B v R) (hB : B ≤ w.heap.size) (hl : R.length ≤ 100000000) (hi : i ≤ R.length)
    (hh : w.heap[h]? = some (.cells #[.int .i64 x.a, .int .i64 x.n, .int .i64 x.s] 33 (0, 0))) (hne : v.ownBlock ≠ some h) :
    Calls Try.prog 38 #[v, .int .i64 i, .slice (some ⟨h, 0, none⟩) 1 d] w (Pushed w B v (insertAt R i x)) := by
  by_cases hi0 : i = R.length
  · subst hi0
    have : insertAt R R.length x = R ++ [x] := by simp [insertAt]
    rw [this]
    refine insert_end v R x B h d w hown hB hl ⟨?_, ?_, ?_⟩ <;> simp [World.cell?, hh]
  · obtain ⟨g, c, T, rfl, hBg, hc, hcm, hL, hgw⟩ := hown.whole (by omega)
    by_cases hr : R.length + 1 ≤ c
    · exact insert_room R i x B h d g c T w hBg hgw hL hcm (by omega) hr hl hh (fun e => hne (by rw [e]; rfl))
    · exact insert_grow R i x B h d g c T w hB hgw hc (by omega) (by omega) hl hh
end Go.Proofs.Ytcalianponiioaa
