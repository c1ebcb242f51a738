/-
  slices.Clone and slices.DeleteFunc as extent.Runs calls them.
  Conditions: as each theorem says.
-/
import Derived.Test.YtnfaciageadlkaaGD
import Derived.Lib.SliceRun
namespace Go
set_option linter.unusedSimpArgs false
set_option linter.unusedVariables false
set_option maxRecDepth 100000
open Go.RowKit
section
variable {P : Program}
theorem run_clear_k (w : World) (t e ty : TypeId) (z : Value) (k : Nat) (u : Value) (ht : P.underlying t = some (.slice e)) (hv : ∀ w, (zeroValue e).run P w = .ok z w) (hz : z.cells = Array.replicate k u) (hk : 0 < k) (h1 : u.oneCell' = true) (b o n c : Nat) (hn : 0 < n)
    (hc : ∀ j, j < n * k → (w.cell? ⟨b, o + j, none⟩).isSome = true) (hf : ∀ j, j < n * k → w.frozen? ⟨b, o + j, none⟩ = false) :
    (Builtin.clear_ #[t] ty #[.slice (some ⟨b, o, none⟩) n c]).run P w = .ok (.tuple #[]) (w.setCells b o (List.replicate (n * k) u)) := by
  have hzc : (Builtin.zeroCells z.cells n).toList = List.replicate (n * k) u := by
    rw [hz]
    simp only [Builtin.zeroCells]
    apply List.ext_getElem
    · simp
    · intro i h1 h2
      simp
      rw [getElem!_pos _ _ (by simp; exact Nat.mod_lt _ hk)]
      simp
  have hst := run_storeCells_cells (P := P) b o (List.replicate (n * k) u) 0 w (by simpa using hc) (by simpa using hf) (by intro v hv'; rw [List.eq_of_mem_replicate hv']; exact h1)
  simp only [Nat.add_zero] at hst
  obtain ⟨m, rfl⟩ : ∃ m, n = m + 1 := ⟨n - 1, by omega⟩
  simp [Builtin.clear_, run_underlying ht, hv, hzc, hst]
theorem World.grownBy.next {w a b : World} {row : Option Nat} (h2 : w.grownBy a row) (h5 : a.grownBy b row) : w.grownBy b row :=
  ⟨h5.os.trans h2.os, h5.tape.trans h2.tape, h5.output.trans h2.output, Nat.le_trans h2.size h5.size, fun k hk hne => (h5.block k (Nat.lt_of_lt_of_le hk h2.size) hne).trans (h2.block k hk hne)⟩
theorem World.grownBy.behind {w a b : World} {row : Option Nat} (h : w.grownBy a row) (hb : Below a.heap.size a b) : w.grownBy b row :=
  h.next ⟨hb.os, hb.tape, hb.output, hb.size, fun k hk _ => hb.block k hk⟩
theorem World.ownsRow.storedAll {w : World} {base g cap n size : Nat} {e : TypeId} (vs : List Value) : ∀ (w : World) (xs : List Value) (o : Nat), w.ownsRow base e size (.slice (some ⟨g, 0, none⟩) n cap) n xs →
    ∃ xs', (w.setCells g o vs).ownsRow base e size (.slice (some ⟨g, 0, none⟩) n cap) n xs' ∧ xs'.take o = xs.take o ∧ w.grownBy (w.setCells g o vs) (some g) := by
  induction vs with
  | nil => intro w xs o h; exact ⟨xs, h, rfl, rfl, rfl, rfl, Nat.le_refl _, fun _ _ _ => rfl⟩
  | cons v r ih =>
    intro w xs o h
    obtain ⟨h1, h2⟩ := h.stored o v
    obtain ⟨xs', h3, h4, h5⟩ := ih _ _ (o + 1) h1
    refine ⟨xs', h3, ?_, ?_⟩
    · have := congrArg (List.take o) h4
      rw [List.take_take, List.take_take, Nat.min_eq_left (by omega)] at this
      rw [this, List.take_set_of_le (Nat.le_refl o)]
    · exact ⟨h5.os.trans h2.os, h5.tape.trans h2.tape, h5.output.trans h2.output, Nat.le_trans h2.size h5.size, fun k hk hne => (h5.block k (Nat.lt_of_lt_of_le hk h2.size) hne).trans (h2.block k hk hne)⟩
theorem World.ownsRow.short {w : World} {base g cap n size m : Nat} {e : TypeId} {xs : List Value} (h : w.ownsRow base e size (.slice (some ⟨g, 0, none⟩) n cap) n xs) (hm : m ≤ n) :
    w.ownsRow base e size (.slice (some ⟨g, 0, none⟩) m cap) m (xs.take (m * size)) := by
  obtain ⟨hl, ⟨h', _⟩ | ⟨g', cap', cur, h', hb, hg, hnc, hcm, hcs, htake⟩⟩ := h
  · simp at h'
  · simp only [Value.slice.injEq, Option.some.injEq, Addr.mk.injEq, and_true, true_and] at h'
    obtain ⟨rfl, rfl⟩ := h'
    have hms : m * size ≤ n * size := Nat.mul_le_mul_right _ hm
    refine ⟨by rw [List.length_take, hl]; omega, .inr ⟨g, cap, cur, rfl, hb, hg, by omega, hcm, hcs, ?_⟩⟩
    rw [← htake, List.take_take, Nat.min_eq_left hms]
end
end Go
namespace Go.Proofs.Ytnfaciageadlkaa
set_option linter.unusedSimpArgs false
set_option linter.unusedVariables false
set_option maxRecDepth 100000
open Go.RowKit

theorem take_cells (M : List E) (i : Nat) : cellsL (M.take i) = (cellsL M).take (i * 3) := by
  have e : cellsL M = cellsL (M.take i) ++ cellsL (M.drop i) := by rw [← cellsL_append, List.take_append_drop]
  by_cases h : i ≤ M.length
  · rw [e, List.take_append_of_le_length (by rw [cellsL_length, List.length_take]; omega), List.take_of_length_le (l := cellsL (M.take i)) (by rw [cellsL_length, List.length_take]; omega)]
  · rw [List.take_of_length_le (by omega), List.take_of_length_le (by rw [cellsL_length]; omega)]
theorem OwnE.short {w : World} {B g c n : Nat} {M : List E} (hn : n = M.length) (h : OwnE w B (.slice (some ⟨g, 0, none⟩) n c) M) (i : Nat) (hi : i ≤ M.length) : OwnE w B (.slice (some ⟨g, 0, none⟩) i c) (M.take i) := by
  subst hn
  have := World.ownsRow.short h hi
  unfold OwnE
  rw [take_cells, List.length_take, Nat.min_eq_left hi]
  exact this
theorem set_cells (M : List E) (k : Nat) (h : k < M.length) (x : E) : (((cellsL M).set (k * 3) (.int .i64 x.a)).set (k * 3 + 1) (.int .i64 x.n)).set (k * 3 + 2) (.int .i64 x.s) = cellsL (M.set k x) := by
  rw [set_split M k h]
  have e : cellsL M = cellsL (M.take k) ++ (E.cells M[k] ++ cellsL (M.drop (k + 1))) := by
    conv => lhs; rw [split_at M k h, cellsL_append]
    rfl
  have hk : (cellsL (M.take k)).length = k * 3 := by rw [cellsL_length, List.length_take, Nat.min_eq_left (by omega)]
  rw [e, cellsL_append, List.set_append_right _ _ (by rw [hk]; omega), List.set_append_right _ _ (by rw [hk]; omega), List.set_append_right _ _ (by rw [hk]; omega), hk, show k * 3 - k * 3 = 0 by omega, show k * 3 + 1 - k * 3 = 1 by omega, show k * 3 + 2 - k * 3 = 2 by omega]
  rfl
theorem OwnE.put {w : World} {B g c n : Nat} {M : List E} (hn : n = M.length) (h : OwnE w B (.slice (some ⟨g, 0, none⟩) n c) M) (k : Nat) (hk : k < M.length) (x : E) :
    OwnE (((w.setCell ⟨g, k * 3, none⟩ (.int .i64 x.a)).setCell ⟨g, k * 3 + 1, none⟩ (.int .i64 x.n)).setCell ⟨g, k * 3 + 2, none⟩ (.int .i64 x.s)) B (.slice (some ⟨g, 0, none⟩) n c) (M.set k x) ∧
    w.grownBy (((w.setCell ⟨g, k * 3, none⟩ (.int .i64 x.a)).setCell ⟨g, k * 3 + 1, none⟩ (.int .i64 x.n)).setCell ⟨g, k * 3 + 2, none⟩ (.int .i64 x.s)) (some g) := by
  subst hn
  obtain ⟨s1, g1⟩ := World.ownsRow.stored h (k * 3) (.int .i64 x.a)
  obtain ⟨s2, g2⟩ := s1.stored (k * 3 + 1) (.int .i64 x.n)
  obtain ⟨s3, g3⟩ := s2.stored (k * 3 + 2) (.int .i64 x.s)
  rw [set_cells M k hk x] at s3
  refine ⟨?_, ?_⟩
  · unfold OwnE
    rw [List.length_set]
    exact s3
  · exact ⟨rfl, rfl, rfl, Nat.le_trans g1.size (Nat.le_trans g2.size g3.size), fun j hj hne => (g3.block j (Nat.lt_of_lt_of_le hj (Nat.le_trans g1.size g2.size)) hne).trans ((g2.block j (Nat.lt_of_lt_of_le hj g1.size) hne).trans (g1.block j hj hne))⟩

set_option maxHeartbeats 400000 in
theorem bad_is (x : E) (b : Bool) (hb : okB x = b) (hx : x.wf) (w : World) :
    Calls Try.prog 27 #[.agg #[.int .i64 x.a, .int .i64 x.n, .int .i64 x.s]] w fun e w' => e = .returned (.bool (!b)) ∧ Below w.heap.size w w' := by
  obtain ⟨⟨b1, b2⟩, ⟨b3, b4⟩, ⟨b5, b6⟩⟩ := hx
  have HX := Lib.hid hb
  clear hb
  go_enter Try.func27, Try.ntmps27
  go_wp2_with fail
  refine (proper_is _ _ _ _ _ HX.out b1 b2 b5 b6).mono ?_
  rintro e w1 ⟨rfl, hb1⟩
  have hB1 := ((Below.refl w.heap.size w).onAlloc _).on hb1
  go_wp2_with fail
  all_goals
    go_ret
    exact ⟨rfl, hB1⟩
set_option maxHeartbeats 400000 in
theorem index_bad (l : List E) (a : Option Addr) (c : Nat) (w : World) (hr : Rd w a l) (hw : wfL l) :
    Calls Try.prog 32 #[.slice a l.length c, .func (.func 27) #[] #[]] w fun e w' => e = .returned (.int .i64 (idxR l fun y => !okB y)) ∧ Below w.heap.size w w' := by
  have hlen := hr.1
  go_enter Try.func32, Try.ntmps32
  go_wp2
  go_loopw [8] (fun i wr => ∃ k : Nat, k ≤ l.length ∧ i = .int .i64 k ∧ (∀ x ∈ l.take k, (!okB x) = false) ∧ Below w.heap.size w wr) (fun i _ => l.length - (intOf i).toNat)
  case atStart => exact ⟨0, Nat.zero_le _, rfl, by simp, Below.refl _ _⟩
  case round =>
    obtain ⟨k, hk, rfl, hv, hB⟩ := hrel
    by_cases hlt : k < l.length
    · obtain ⟨b, o, rfl, hat⟩ := (hr.keep hB).at (by omega)
      obtain ⟨h1, h2, h3⟩ := hat k _ (List.getElem?_eq_getElem hlt)
      have hwx := hw _ (List.getElem_mem hlt)
      have HT := Lib.hid (idxR_at l (fun y => !okB y) k hlt hv)
      have HF := Lib.hid (take_succ_false l (fun y => !okB y) k hlt hv)
      generalize l[k] = x at *
      clear hat hr hv hw
      cases hp : okB x
      · have HP := Lib.hid hp
        clear hp
        go_wp2_with fail
        refine (bad_is x _ HP.out hwx _).mono ?_
        rintro e w1 ⟨rfl, hb1⟩
        go_wp2_with fail
        go_ret
        exact ⟨ret_int (HT.out (by simp [HP.out])).symm, hB.on hb1⟩
      · have HP := Lib.hid hp
        clear hp
        go_wp2_with fail
        refine (bad_is x _ HP.out hwx _).mono ?_
        rintro e w1 ⟨rfl, hb1⟩
        go_wp2_with fail
        go_roundw
        case rel => exact ⟨k + 1, by omega, by go_num, HF.out (by simp [HP.out]), hB.on hb1⟩
        case measure => simp [intOf]; omega
    · have HN := Lib.hid (idxR_none l (fun y => !okB y) (by rw [List.take_of_length_le (by omega)] at hv; exact hv))
      clear hv
      go_wp2
      go_ret
      exact ⟨ret_int HN.out.symm, hB⟩

/-- The rounds of DeleteFunc: i extents are kept of the first j. -/
structure Sieve (l M : List E) (i j : Nat) : Prop where
  len : M.length = l.length
  ij : i < j
  jl : j ≤ l.length
  head : M.take i = (l.take j).filter okB
  tail : M.drop j = l.drop j
theorem sieve_start (l : List E) (i : Nat) (hi : i < l.length) (h : ∀ x ∈ l.take i, (!okB x) = false) (hb : okB l[i] = false) : Sieve l l i (i + 1) := by
  refine ⟨rfl, by omega, by omega, ?_, rfl⟩
  rw [List.take_succ_eq_append_getElem hi, List.filter_append]
  have h1 : (l.take i).filter okB = l.take i := List.filter_eq_self.2 fun x hx => by simpa using h x hx
  rw [h1]
  simp [hb]
theorem sieve_get {l M : List E} {i j : Nat} (h : Sieve l M i j) (hj : j < l.length) : M[j]? = some l[j] := by
  have h1 := congrArg (fun t => t[0]?) h.tail
  simp only [List.getElem?_drop, Nat.add_zero] at h1
  rw [h1, List.getElem?_eq_getElem hj]
theorem sieve_skip {l M : List E} {i j : Nat} (h : Sieve l M i j) (hj : j < l.length) (hb : okB l[j] = false) : Sieve l M i (j + 1) := by
  refine ⟨h.len, by have := h.ij; omega, by omega, ?_, ?_⟩
  · rw [List.take_succ_eq_append_getElem hj, List.filter_append, h.head]
    simp [hb]
  · rw [← List.drop_drop, h.tail, List.drop_drop]
theorem sieve_keep {l M : List E} {i j : Nat} (h : Sieve l M i j) (hj : j < l.length) (hb : okB l[j] = true) : Sieve l (M.set i l[j]) (i + 1) (j + 1) := by
  have hl := h.len
  have hij := h.ij
  refine ⟨by simp [hl], by omega, by omega, ?_, ?_⟩
  · rw [List.take_succ_eq_append_getElem (by simp; omega), List.take_set_of_le (Nat.le_refl i), List.take_succ_eq_append_getElem hj, List.filter_append, h.head]
    simp [hb]
  · rw [List.drop_set_of_lt (by omega), ← List.drop_drop, h.tail, List.drop_drop]
theorem sieve_end {l M : List E} {i j : Nat} (h : Sieve l M i j) (hj : l.length ≤ j) : M.take i = l.filter okB := by
  rw [h.head, List.take_of_length_le hj]
theorem idx_cases (l : List E) : (idxR l (fun y => !okB y) = -1 ∧ l.filter okB = l) ∨ ∃ i : Nat, idxR l (fun y => !okB y) = i ∧ Sieve l l i (i + 1) := by
  by_cases h : ∀ x ∈ l, (!okB x) = false
  · exact .inl ⟨idxR_none l _ h, List.filter_eq_self.2 fun x hx => by simpa using h x hx⟩
  · right
    have hex : ∃ i : Nat, ∃ hi : i < l.length, (!okB l[i]) = true := by
      refine Classical.byContradiction fun hn => h fun x hx => ?_
      obtain ⟨i, hi, rfl⟩ := List.mem_iff_getElem.1 hx
      cases hh : (!okB l[i]) with
      | false => rfl
      | true => exact absurd ⟨i, hi, hh⟩ hn
    have hex2 : ∃ i : Nat, (∃ hi : i < l.length, (!okB l[i]) = true) ∧ ∀ j, j < i → ¬ ∃ hj : j < l.length, (!okB l[j]) = true := by
      obtain ⟨n, hn⟩ := hex
      induction n using Nat.strongRecOn with
      | _ n ih =>
        by_cases hm : ∃ m, m < n ∧ ∃ hj : m < l.length, (!okB l[m]) = true
        · obtain ⟨m, hm1, hm2⟩ := hm
          exact ih m hm1 hm2
        · exact ⟨n, hn, fun j hj c => hm ⟨j, hj, c⟩⟩
    obtain ⟨i, ⟨hi, hb⟩, hmin⟩ := hex2
    have hv : ∀ x ∈ l.take i, (!okB x) = false := fun x hx => by
      obtain ⟨j, hj, rfl⟩ := List.mem_iff_getElem.1 hx
      have hji : j < i := by simp at hj; omega
      rw [List.getElem_take]
      cases hh : (!okB (l[j]'(by omega))) with
      | false => rfl
      | true => exact absurd ⟨by omega, hh⟩ (hmin j hji)
    exact ⟨i, idxR_at l _ i hi hv hb, sieve_start l i hi hv (by simpa using hb)⟩

set_option maxRecDepth 100000 in
set_option maxHeartbeats 4000000 in
theorem delete_any (v : Value) (l : List E) (B : Nat) (w : World) (hown : OwnE w B v l) (hl : l.length ≤ 1000000000) (hw : wfL l) (hBw : B ≤ w.heap.size) :
    Calls Try.prog 25 #[v, .func (.func 27) #[] #[]] w fun e w' =>
      ∃ v', e = .returned v' ∧ OwnE w' B v' (l.filter okB) ∧ w.grownBy w' v.ownBlock ∧ (v'.ownBlock = v.ownBlock) := by
  obtain ⟨a0, c0, rfl, hr⟩ := hown.rd (by omega)
  have HO := Lib.hid hown
  clear hown
  rcases idx_cases l with ⟨h1, h2⟩ | ⟨i, h1, h2⟩
  · have H1 := Lib.hid h1
    have H2 := Lib.hid h2
    clear h1 h2
    go_enter Try.func25, Try.ntmps25
    go_wp2_with fail
    refine (index_bad l _ _ _ hr hw).mono ?_
    rintro e w1 ⟨rfl, hb1⟩
    rw [H1.out]
    have HO1 := Lib.hid (HO.out.keep hb1)
    clear HO hr
    go_wp2_with fail
    go_ret
    exact ⟨_, rfl, by rw [H2.out]; exact HO1.out, ⟨hb1.os, hb1.tape, hb1.output, hb1.size, fun k hk _ => hb1.block k hk⟩, rfl⟩
  · have H1 := Lib.hid h1
    have H2 := Lib.hid h2
    have hi := h2.jl
    clear h1 h2
    obtain ⟨g, c, hv, hg1, hg2, hc1, hc2, _, _⟩ := (HO.out.form).resolve_left (by rintro ⟨_, rfl⟩; simp at hi)
    simp only [Value.slice.injEq, true_and] at hv
    obtain ⟨rfl, rfl⟩ := hv
    go_enter Try.func25, Try.ntmps25
    go_wp2_with fail
    refine (index_bad l _ _ _ hr hw).mono ?_
    rintro e w1 ⟨rfl, hb1⟩
    rw [H1.out]
    have HO1 := Lib.hid (HO.out.keep hb1)
    clear HO hr
    have hne : ((i : Int) == -1) = false := by simp
    go_wp2_with fail
    go_loopw [5, 6] (fun iv jv wr => ∃ (M : List E) (i j : Nat), iv = .int .i64 i ∧ jv = .int .i64 j ∧ Sieve l M i j ∧ OwnE wr B (.slice (some ⟨g, 0, none⟩) l.length c0) M ∧ w.grownBy wr (some g)) (fun _ j _ => l.length - (intOf j).toNat)
    case atStart => exact ⟨l, i, i + 1, rfl, by go_num, H2.out, HO1.out, ⟨hb1.os, hb1.tape, hb1.output, hb1.size, fun k hk _ => hb1.block k hk⟩⟩
    case round =>
      clear HO1 H1 H2
      obtain ⟨M, i, j, rfl, rfl, hS, ho, hG⟩ := hrel
      have hML := hS.len
      have hij := hS.ij
      have hjl := hS.jl
      by_cases hlt : j < l.length
      · have hx0 := sieve_get hS hlt
        have hwx := hw _ (List.getElem_mem hlt)
        have HS1 : Hid (okB l[j] = false → Sieve l M i (j + 1)) := Lib.hid (sieve_skip hS hlt)
        have HS2 : Hid (okB l[j] = true → Sieve l (M.set i l[j]) (i + 1) (j + 1)) := Lib.hid (sieve_keep hS hlt)
        obtain ⟨_, _, hv, _, hg3, hcc, hcm, hgt, hfz⟩ := (ho.form).resolve_left (by rintro ⟨_, rfl⟩; simp at hML; omega)
        simp only [Value.slice.injEq, Option.some.injEq, Addr.mk.injEq, and_true, true_and] at hv
        obtain ⟨rfl, hdrop, rfl⟩ := hv
        clear hdrop
        have hx1 := hgt j _ hx0
        have hz1 := hgt i _ (List.getElem?_eq_getElem (by omega))
        generalize l[j] = x at *
        generalize M[i] = z at *
        obtain ⟨x1, x2, x3⟩ := hx1
        obtain ⟨z1, z2, z3⟩ := hz1
        simp only [Nat.zero_add] at x1 x2 x3 z1 z2 z3
        have q1 := hfz (i * 3)
        have q2 := hfz (i * 3 + 1)
        have q3 := hfz (i * 3 + 2)
        have HO1 := Lib.hid ho
        clear ho hS hgt hfz hx0 hw
        cases hp : okB x
        · have HP := Lib.hid hp
          clear hp
          go_wp2_with fail
          refine (bad_is x _ HP.out hwx _).mono ?_
          rintro e w2 ⟨rfl, hb2⟩
          have hB2 := ((Below.refl wr.heap.size wr).onAlloc _).on hb2
          have hG2 := Lib.hid (hG.behind hB2)
          go_wp2_with fail
          go_roundw
          case rel => exact ⟨M, i, j + 1, rfl, by go_num, HS1.out HP.out, HO1.out.keep hB2, hG2.out⟩
          case measure => simp [intOf]; omega
        · have HP := Lib.hid hp
          clear hp
          go_wp2_with fail
          refine (bad_is x _ HP.out hwx _).mono ?_
          rintro e w2 ⟨rfl, hb2⟩
          have hB2 := ((Below.refl wr.heap.size wr).onAlloc _).on hb2
          have x1 : w2.cell? ⟨wr.heap.size, 0, none⟩ = some (.int .i64 x.a) := hb2.keep (by simp)
          have x2 : w2.cell? ⟨wr.heap.size, 1, none⟩ = some (.int .i64 x.n) := hb2.keep (by simp)
          have x3 : w2.cell? ⟨wr.heap.size, 2, none⟩ = some (.int .i64 x.s) := hb2.keep (by simp)
          have q1 := hB2.keepF z1 q1
          have q2 := hB2.keepF z2 q2
          have q3 := hB2.keepF z3 q3
          have z1 := hB2.keep z1
          have z2 := hB2.keep z2
          have z3 := hB2.keep z3
          clear hb2
          go_wp2_with fail
          have hst := (HO1.out.keep hB2).put hML.symm i (by omega) x
          have T1 := Lib.hid hst.1
          have T2 := Lib.hid ((hG.behind hB2).next hst.2)
          clear hst
          go_roundw
          case rel => exact ⟨M.set i x, i + 1, j + 1, by go_num, by go_num, HS2.out HP.out, T1.out, T2.out⟩
          case measure => simp [intOf]; omega
      · have HE := Lib.hid (sieve_end hS (by omega))
        obtain ⟨_, _, hv, _, hg3, hcc, hcm, hgt, hfz⟩ := (ho.form).resolve_left (by rintro ⟨_, rfl⟩; simp at hML; omega)
        simp only [Value.slice.injEq, Option.some.injEq, Addr.mk.injEq, and_true, true_and] at hv
        obtain ⟨rfl, hdrop, rfl⟩ := hv
        clear hdrop
        have hcl : ∀ ty, (Builtin.clear_ #[34] ty #[.slice (some ⟨g, i * 3, none⟩) (l.length - i) (c0 - i)]).run Try.prog wr = .ok (.tuple #[]) (wr.setCells g (i * 3) (List.replicate ((l.length - i) * 3) (.int .i64 0))) :=
          fun ty => run_clear_k wr _ 32 ty (.agg #[.int .i64 0, .int .i64 0, .int .i64 0]) 3 (.int .i64 0) Try.underlying34 Try.zeroValue32 rfl (by decide) rfl g (i * 3) _ _ (by omega)
            (fun t ht => by
              have hk : i + t / 3 < M.length := by omega
              obtain ⟨k1, k2, k3⟩ := hgt (i + t / 3) _ (List.getElem?_eq_getElem hk)
              simp only [Nat.zero_add] at k1 k2 k3
              rcases (by omega : i * 3 + t = (i + t / 3) * 3 ∨ i * 3 + t = (i + t / 3) * 3 + 1 ∨ i * 3 + t = (i + t / 3) * 3 + 2) with e | e | e
              · rw [e, k1]; rfl
              · rw [e, k2]; rfl
              · rw [e, k3]; rfl)
            (fun t ht => hfz _)
        have HO1 := Lib.hid ho
        clear ho hS hgt hfz
        go_wp2_with fail
        go_ret
        have h1 := HO1.out
        obtain ⟨xs', h3, h4, h5⟩ := World.ownsRow.storedAll (w := wr) (List.replicate ((l.length - i) * 3) (.int .i64 0)) wr _ (i * 3) (show wr.ownsRow B 32 3 (.slice (some ⟨g, 0, none⟩) l.length c0) l.length (cellsL M) by rw [← hML] at h1 ⊢; exact h1)
        have h6 := World.ownsRow.short h3 (show i ≤ l.length by omega)
        refine ⟨_, rfl, ?_, hG.next h5, rfl⟩
        rw [← HE.out]
        unfold OwnE
        rw [take_cells, ← h4, List.length_take, Nat.min_eq_left (by omega)]
        exact h6
end Go.Proofs.Ytnfaciageadlkaa
