/-
  slices.Clone and slices.SortFunc as extent.Runs calls them.
  Conditions: as each theorem says.
-/
import Derived.Test.YtnfaciageadlkaaRuD
import Derived.Test.YtnfaciageadlkaaGC
import Derived.Shelf.SlSortCmp.WholeK
import Derived.Shelf.Lay
import Derived.Ground.SlsfProg
namespace Go.Proofs.Ytnfaciageadlkaa
set_option linter.unusedSimpArgs false
set_option linter.unusedVariables false
set_option maxRecDepth 100000
open Go.RowKit Go.Shelf Go.Sort

instance : Inhabited E := ⟨⟨0, 0, 0⟩⟩
def cmpI (a b : Int) : Int := if a < b then -1 else if b < a then 1 else 0
set_option maxHeartbeats 400000 in
theorem isNaN_is (a : Int) (w : World) : Calls Try.prog 36 #[.int .i64 a] w fun e w' => e = .returned (.bool false) ∧ w = w' := by
  go_enter Try.func36, Try.ntmps36
  go_wp2
  go_ret
  exact ⟨rfl, rfl⟩
set_option maxHeartbeats 400000 in
theorem compare_is (a b : Int) (w : World) : Calls Try.prog 31 #[.int .i64 a, .int .i64 b] w fun e w' => e = .returned (.int .i64 (cmpI a b)) ∧ w = w' := by
  go_enter Try.func31, Try.ntmps31
  go_wp2_with (go_at_call 36; refine (isNaN_is _ _).mono ?_; rintro e w1 ⟨rfl, rfl⟩)
  all_goals
    go_ret
    exact ⟨ret_int (by unfold cmpI; split <;> (try split) <;> omega), rfl⟩
set_option maxHeartbeats 400000 in
theorem less_is (x y : E) (W : World) : Calls Try.prog 30 #[.agg #[.int .i64 x.a, .int .i64 x.n, .int .i64 x.s], .agg #[.int .i64 y.a, .int .i64 y.n, .int .i64 y.s]] W fun e w' =>
    e = .returned (.int .i64 (cmpI x.s y.s)) ∧ ∃ q os', w' = Sort.grow (W.drewN q) os' := by
  go_enter Try.func30, Try.ntmps30
  go_wp2_with fail
  refine (compare_is _ _ _).mono ?_
  rintro e w1 ⟨rfl, rfl⟩
  go_wp2_with fail
  go_ret
  exact ⟨rfl, 0, _, by rw [alloc_eq_grow, alloc_eq_grow, grow_grow]; rfl⟩
set_option maxHeartbeats 400000 in
theorem clone_any (l : List E) (a : Option Addr) (c : Nat) (w : World) (hr : Rd w a l) (hl : l.length ≤ 1000000000) :
    Calls Try.prog 26 #[.slice a l.length c] w fun e w' => ∃ v, e = .returned v ∧ OwnE w' w.heap.size v l ∧ Below w.heap.size w w' := by
  obtain ⟨i0, hi, hz0, hz1, hz2⟩ := info_parts infoE
  have q22 : ∀ (w : World) (a : Option Addr) (n c n' c' : Nat), (binOp .eql 34 (.slice a n c) (.slice none n' c')).run Try.prog w = .ok (.bool a.isNone) w := fun w a n c n' c' => Lib.run_eql_slice_nil w _ _ a n c n' c' Try.underlying34
  cases a with
  | none =>
    have h0 : l = [] := by
      rcases hr.2 with h | ⟨b, o, h, _⟩
      · exact h
      · cases h
    subst h0
    go_enter Try.func26, Try.ntmps26
    go_wp2_with fail
    go_ret
    exact ⟨_, rfl, OwnE.nil _ _, Below.refl _ _⟩
  | some ad =>
    have h0 := OwnE.lit w #[] [] rfl (by decide) w.heap.size (Nat.le_refl _)
    have hs := ((hr.keep ((Below.refl _ _).onAlloc (.cells #[] 32))).source)
    have H0 := Lib.hid h0
    have HS := Lib.hid hs
    clear h0 hs
    go_enter Try.func26, Try.ntmps26
    go_wp2_with (at_builtin; refine wpList_append_xs _ rfl _ _ 34 rfl w.heap.size 32 i0 (.agg #[.int .i64 0, .int .i64 0, .int .i64 0]) 3 24 Try.underlying34 hi hz0 hz1 hz2 rfl (by decide) _ _ _ rfl H0.out _ _ _ _ rfl HS.out (by first | omega | (simp only [List.length_nil, List.length_append, List.length_cons]; omega)) (by first | (simp only [maxLen]; omega) | (simp only [maxLen, List.length_nil, List.length_append, List.length_cons]; omega)) (by first | omega | (simp only [World.size_alloc]; omega)) ?_; intro v1 w1 hown1 hgrow1 hwhere1)
    go_ret
    refine ⟨_, rfl, ?_, ((Below.refl _ _).onAlloc _).onGrow hgrow1 fun j hj => (H0.out.lt j hj).1⟩
    exact OwnE.append (l := []) hown1 (by simp)

shelf_lay_g SlLaysF0.n6 Slsf 6 at Try 29 as Try.sortE
theorem lt_is (x y : E) : ltOf (fun x y : E => cmpI x.s y.s) x y = decide (x.s < y.s) := by
  unfold ltOf cmpI
  by_cases h1 : x.s < y.s
  · simp [h1]
  · by_cases h2 : y.s < x.s <;> simp [h1, h2]
theorem swo_s : SWO (ltOf fun x y : E => cmpI x.s y.s) where
  irrefl x := by rw [lt_is]; simp
  trans x y z h1 h2 := by rw [lt_is] at *; simp at *; omega
  ntrans x y z h1 h2 := by rw [lt_is] at *; simp at *; omega

theorem flat_cells (d : Array E) : (flatK E.cells 3 d).toList = cellsL d.toList := by
  refine List.ext_getElem (by rw [cellsL_length]; simp) fun i h1 h2 => ?_
  have hi : i < d.size * 3 := by rw [cellsL_length] at h2; simpa using h2
  have hk : i / 3 < d.toList.length := by simp; omega
  have hg := get_flatK E.cells 3 d i hi
  rw [getElem!_pos _ i (by simpa using hi)] at hg
  rw [Array.getElem_toList, hg]
  have hd : d[i / 3]! = d.toList[i / 3] := by rw [getElem!_pos d (i / 3) (by simpa using hk)]; simp
  rw [hd]
  obtain ⟨c1, c2, c3⟩ := cellsL_get d.toList (i / 3) _ (List.getElem?_eq_getElem hk)
  have h3 : (cellsL d.toList)[i]? = some (cellsL d.toList)[i] := List.getElem?_eq_getElem h2
  rcases (by omega : i % 3 = 0 ∨ i % 3 = 1 ∨ i % 3 = 2) with e | e | e
  · rw [show i / 3 * 3 = i by omega, h3] at c1
    injection c1 with c1
    rw [e, c1]
    rfl
  · rw [show i / 3 * 3 + 1 = i by omega, h3] at c2
    injection c2 with c2
    rw [e, c2]
    rfl
  · rw [show i / 3 * 3 + 2 = i by omega, h3] at c3
    injection c3 with c3
    rw [e, c3]
    rfl
theorem OwnE.holdsK {w : World} {B g n c : Nat} {l : List E} (h : OwnE w B (.slice (some ⟨g, 0, none⟩) n c) l) : HoldsK E.cells 3 w g 0 l.toArray := by
  intro j hj
  simp only [size_flatK, List.size_toArray] at hj
  rcases h.form with ⟨hv, _⟩ | ⟨g', c', hv, _, _, _, _, hgt, hfz⟩
  · simp at hv
  · simp only [Value.slice.injEq, Option.some.injEq, Addr.mk.injEq, and_true, true_and] at hv
    obtain ⟨rfl, _, rfl⟩ := hv
    refine ⟨?_, hfz _⟩
    have hk : j / 3 < l.length := by omega
    obtain ⟨k1, k2, k3⟩ := hgt (j / 3) _ (List.getElem?_eq_getElem hk)
    have hg := get_flatK E.cells 3 l.toArray j (by simpa using hj)
    have hd : l.toArray[j / 3]! = l[j / 3] := by rw [getElem!_pos _ (j / 3) (by simpa using hk)]; simp
    rw [hg, hd]
    simp only [Nat.zero_add] at k1 k2 k3 ⊢
    rcases (by omega : j % 3 = 0 ∨ j % 3 = 1 ∨ j % 3 = 2) with e | e | e
    · rw [show j / 3 * 3 = j by omega] at k1
      rw [e, k1]
      rfl
    · rw [show j / 3 * 3 + 1 = j by omega] at k2
      rw [e, k2]
      rfl
    · rw [show j / 3 * 3 + 2 = j by omega] at k3
      rw [e, k3]
      rfl
theorem sortWorld_heap (w : World) (g n : Nat) (d : Array E) (os : Array Obj) (k : Nat) (hk : k < w.heap.size) :
    (sortWorldK E.cells 3 w g 0 n d os).heap[k]? = if g = k then (w.heap[k]?).map (onCells (putCells id 0 (flatK E.cells 3 d))) else w.heap[k]? := by
  unfold sortWorldK putRowK putRow mapBlock Sort.grow Sort.ahead
  simp only
  rw [Array.getElem?_append_left (by simpa using hk), Array.getElem?_modify]
theorem OwnE.sorted {w : World} {B g n c : Nat} {l : List E} (h : OwnE w B (.slice (some ⟨g, 0, none⟩) l.length c) l) (m : Nat) (d : Array E) (os : Array Obj) (hd : d.size = l.length) :
    OwnE (sortWorldK E.cells 3 w g 0 m d os) B (.slice (some ⟨g, 0, none⟩) l.length c) d.toList ∧ w.grownBy (sortWorldK E.cells 3 w g 0 m d os) (some g) := by
  obtain ⟨hl, ⟨h', _⟩ | ⟨g', cap', cur, h', hb, hg, hnc, hcm, hcs, htake⟩⟩ := h
  · simp at h'
  · simp only [Value.slice.injEq, Option.some.injEq, Addr.mk.injEq, and_true, true_and] at h'
    obtain ⟨rfl, rfl⟩ := h'
    have hlt : g < w.heap.size := (Array.getElem?_eq_some_iff.1 hg).1
    have hsz : (sortWorldK E.cells 3 w g 0 m d os).heap.size = w.heap.size + os.size := by
      unfold sortWorldK putRowK putRow mapBlock Sort.grow Sort.ahead
      simp
    refine ⟨⟨by rw [cellsL_length], .inr ⟨g, c, putCells id 0 (flatK E.cells 3 d) cur, by simp [hd], hb, ?_, by simpa [hd] using hnc, hcm, by simpa [putCells] using hcs, ?_⟩⟩, ⟨rfl, rfl, rfl, by omega, fun k hk hne => ?_⟩⟩
    · rw [sortWorld_heap w g m d os g hlt, if_pos rfl, hg]; rfl
    · rw [← flat_cells]
      have hfs : (flatK E.cells 3 d).toList.length = d.toList.length * 3 := by simp
      refine List.ext_getElem (by simp [putCells, hcs, hd]; omega) fun i h1 h2 => ?_
      have hi : i < d.size * 3 := by simpa using h2
      rw [List.getElem_take]
      simp only [putCells, Array.toList_mapIdx, List.getElem_mapIdx, size_flatK, Nat.zero_le, true_and, Nat.zero_add, if_pos hi, Nat.sub_zero, id_eq]
      rw [getElem!_pos _ i (by simpa using hi)]
      simp
    · rw [sortWorld_heap w g m d os k hk, if_neg (fun e => hne (by rw [e]))]

set_option maxHeartbeats 1000000 in
theorem sort_any (g c : Nat) (l : List E) (B : Nat) (w : World) (hown : OwnE w B (.slice (some ⟨g, 0, none⟩) l.length c) l) (hl : l.length ≤ 1000000000) :
    Calls Try.prog 29 #[.slice (some ⟨g, 0, none⟩) l.length c, .func (.func 30) #[] #[]] w fun e w' =>
      e = .returned (.tuple #[]) ∧ ∃ d : List E, OwnE w' B (.slice (some ⟨g, 0, none⟩) l.length c) d ∧ w.grownBy w' (some g) ∧ (∀ x, x ∈ d ↔ x ∈ l) ∧ d.Pairwise (fun x y => x.s ≤ y.s) ∧ d.length = l.length := by
  have eg : ∀ args w, (callFunc 30 args).run Try.prog w = .ok (.enter 30 args) w := enters_of Try.func30 (by kernel_rfl) rfl
  have hcl : CmpLays Try.prog 30 #[] E.cells 3 (fun x y => cmpI x.s y.s) g 0 l.toArray.size w := fun _ _ _ _ x y => less_is x y _
  have hlt := (hown.lt g rfl).2
  have hcon := AnyQ.slices_SortFunc Try.sortE 3 Try.isAgg32 Try.sizeOf32 E.cells (fun _ => rfl) (fun x v hv => by simp [E.cells] at hv; rcases hv with rfl | rfl | rfl <;> rfl) (fun x y => cmpI x.s y.s) swo_s 30 #[] g 0 c l.toArray w eg hcl hown.holdsK hlt (by simp; omega)
  change Calls Try.prog 29 _ _ _ at hcon
  have hsz : l.toArray.size = l.length := by simp
  rw [hsz] at hcon
  refine hcon.mono ?_
  rintro e w' ⟨rfl, d', n, os, hp, hs, rfl⟩
  obtain ⟨p1, _, p3⟩ := hp
  have hd : d'.size = l.length := by rw [p1]; simp
  obtain ⟨o1, o2⟩ := hown.sorted (n := l.length) n d' os hd
  refine ⟨rfl, d'.toList, o1, o2, fun x => ?_, ?_, by simpa using hd⟩
  · have := p3.mem_iff (a := x)
    rw [Array.extract_eq_self_of_le (by omega), Array.extract_eq_self_of_le (by simp)] at this
    simpa using this
  · rw [List.pairwise_iff_getElem]
    intro i j hi hj hij
    have h1 := hs i j (Nat.zero_le _) hij (by simp at hj; omega)
    rw [lt_is, getElem!_pos d' j (by simpa using hj), getElem!_pos d' i (by simpa using hi)] at h1
    have := of_decide_eq_false h1
    simp only [Array.getElem_toList]
    omega
end Go.Proofs.Ytnfaciageadlkaa
