/-
  slices.SortFunc as scan.Scan calls it.
  Conditions: as each theorem says.
-/
import Derived.Test.YtbiecglooagmmaaScL
namespace Go.Proofs.Ytbiecglooagmmaa
set_option linter.unusedSimpArgs false
set_option linter.unusedVariables false
set_option maxRecDepth 100000
open Go.RowKit Go.Shelf Go.Sort

/-- A candidate whose block is a block. -/
abbrev VC := {c : Cd // 0 ≤ c.e.block ∧ c.e.block < 65536}
instance : Inhabited VC := ⟨⟨⟨zeroE, 0, 0⟩, by decide⟩⟩
def fdV (r : Int) (c : VC) : List Value := fdC r c.1
def cmpV (x y : VC) : Int := x.1.e.block - y.1.e.block
theorem ltV_is (x y : VC) : ltOf cmpV x y = decide (x.1.e.block < y.1.e.block) := by
  unfold ltOf cmpV
  by_cases h : x.1.e.block < y.1.e.block
  · simp [h]; omega
  · simp [h]; omega
theorem swo_V : SWO (ltOf cmpV) where
  irrefl x := by rw [ltV_is]; simp
  trans x y z h1 h2 := by rw [ltV_is] at *; simp at *; omega
  ntrans x y z h1 h2 := by rw [ltV_is] at *; simp at *; omega
theorem fdV_len (r : Int) (x : VC) : (fdV r x).length = 12 := rfl
theorem fdV_one (r : Int) (x : VC) : ∀ v ∈ fdV r x, v.oneCell' = true := by
  intro v hv
  simp [fdV, fdC] at hv
  rcases hv with rfl | rfl | rfl | rfl | rfl | rfl | rfl | rfl | rfl | rfl | rfl | rfl <;> rfl
shelf_lay_g SlLaysF0.n6 Slsf 6 at Try 24 as Try.sortFd
theorem flat_fd (r : Int) (d : Array VC) : (flatK (fdV r) 12 d).toList = d.toList.flatMap (fdV r) := by
  have hl := sflat_len (fdV r) 12 (fdV_len r) d.toList
  refine List.ext_getElem (by rw [hl]; simp) fun i h1 h2 => ?_
  have hi : i < d.size * 12 := by rw [hl] at h2; simpa using h2
  have hk : i / 12 < d.toList.length := by simp; omega
  have hg := get_flatK (fdV r) 12 d i hi
  rw [getElem!_pos _ i (by simpa using hi)] at hg
  rw [Array.getElem_toList, hg]
  have hd : d[i / 12]! = d.toList[i / 12] := by rw [getElem!_pos d (i / 12) (by simpa using hk)]; simp
  rw [hd]
  have hs := sflat_get (fdV r) 12 (fdV_len r) d.toList (i / 12) _ (List.getElem?_eq_getElem hk) (i % 12) (Nat.mod_lt _ (by omega))
  rw [show i / 12 * 12 + i % 12 = i by omega, List.getElem?_eq_getElem h2] at hs
  rw [getElem!_pos _ _ (by rw [fdV_len]; exact Nat.mod_lt _ (by omega))]
  rw [List.getElem?_eq_getElem (by rw [fdV_len]; exact Nat.mod_lt _ (by omega))] at hs
  exact (Option.some.inj hs).symm
theorem fd_map (r : Int) (l : List VC) : (l.map (·.1)).flatMap (fdC r) = l.flatMap (fdV r) := by
  rw [List.flatMap_map]
  rfl
theorem OwnF.rows {w : World} {B g c : Nat} {r : Int} {l : List VC} (h : OwnF w B (.slice (some ⟨g, 0, none⟩) l.length c) r (l.map (·.1))) : w.ownsRow B 43 12 (.slice (some ⟨g, 0, none⟩) l.length c) l.length (l.flatMap (fdV r)) := by
  unfold OwnF at h
  rw [fd_map, List.length_map] at h
  exact h
theorem OwnF.holdsK {w : World} {B g c : Nat} {r : Int} {l : List VC} (h : OwnF w B (.slice (some ⟨g, 0, none⟩) l.length c) r (l.map (·.1))) : HoldsK (fdV r) 12 w g 0 l.toArray := by
  have h' := h.rows
  intro j hj
  simp only [size_flatK, List.size_toArray] at hj
  refine ⟨?_, World.ownsRow.frozenAt h' _⟩
  have hk : j / 12 < l.length := by omega
  have hc := World.ownsRow.cellAt (cap := c) h' j (by omega)
  have hs := sflat_get (fdV r) 12 (fdV_len r) l (j / 12) _ (List.getElem?_eq_getElem hk) (j % 12) (Nat.mod_lt _ (by omega))
  rw [show j / 12 * 12 + j % 12 = j by omega] at hs
  have hg := get_flatK (fdV r) 12 l.toArray j (by simpa using hj)
  have hd : l.toArray[j / 12]! = l[j / 12] := by rw [getElem!_pos _ (j / 12) (by simpa using hk)]; simp
  rw [hg, hd, Nat.zero_add, hc, hs, List.getElem?_eq_getElem (by rw [fdV_len]; exact Nat.mod_lt _ (by omega)), getElem!_pos _ _ (by rw [fdV_len]; exact Nat.mod_lt _ (by omega))]
  rfl
theorem ssortW_heap (r : Int) (w : World) (g n : Nat) (d : Array VC) (os : Array Obj) (k : Nat) (hk : k < w.heap.size) :
    (sortWorldK (fdV r) 12 w g 0 n d os).heap[k]? = if g = k then (w.heap[k]?).map (onCells (putCells id 0 (flatK (fdV r) 12 d))) else w.heap[k]? := by
  unfold sortWorldK putRowK putRow mapBlock Sort.grow Sort.ahead
  simp only
  rw [Array.getElem?_append_left (by simpa using hk), Array.getElem?_modify]
theorem OwnF.sorted {w : World} {B g c : Nat} {r : Int} {l : List VC} (h0 : OwnF w B (.slice (some ⟨g, 0, none⟩) l.length c) r (l.map (·.1))) (m : Nat) (d : Array VC) (os : Array Obj) (hd : d.size = l.length) :
    OwnF (sortWorldK (fdV r) 12 w g 0 m d os) B (.slice (some ⟨g, 0, none⟩) l.length c) r (d.toList.map (·.1)) ∧ w.grownBy (sortWorldK (fdV r) 12 w g 0 m d os) (some g) := by
  obtain ⟨hl, ⟨h', _⟩ | ⟨g', cap', cur, h', hb, hg, hnc, hcm, hcs, htake⟩⟩ := h0.rows
  · simp at h'
  · simp only [Value.slice.injEq, Option.some.injEq, Addr.mk.injEq, and_true, true_and] at h'
    obtain ⟨rfl, rfl⟩ := h'
    have hlt : g < w.heap.size := (Array.getElem?_eq_some_iff.1 hg).1
    have hsz : (sortWorldK (fdV r) 12 w g 0 m d os).heap.size = w.heap.size + os.size := by
      unfold sortWorldK putRowK putRow mapBlock Sort.grow Sort.ahead
      simp
    have hfl := sflat_len (fdV r) 12 (fdV_len r) d.toList
    refine ⟨?_, ⟨rfl, rfl, rfl, by omega, fun k hk hne => ?_⟩⟩
    · unfold OwnF
      rw [fd_map, List.length_map]
      refine ⟨by rw [hfl], .inr ⟨g, c, putCells id 0 (flatK (fdV r) 12 d) cur, by simp [hd], hb, ?_, by simpa [hd] using hnc, hcm, by simpa [putCells] using hcs, ?_⟩⟩
      · rw [ssortW_heap r w g m d os g hlt, if_pos rfl, hg]; rfl
      · rw [← flat_fd]
        have hfs : (flatK (fdV r) 12 d).toList.length = d.toList.length * 12 := by simp
        refine List.ext_getElem (by simp [putCells, hcs, hd]; omega) fun i h1 h2 => ?_
        have hi : i < d.size * 12 := by simpa using h2
        rw [List.getElem_take]
        simp only [putCells, Array.toList_mapIdx, List.getElem_mapIdx, size_flatK, Nat.zero_le, true_and, Nat.zero_add, if_pos hi, Nat.sub_zero, id_eq]
        rw [getElem!_pos _ i (by simpa using hi)]
        simp
    · rw [ssortW_heap r w g m d os k hk, if_neg (fun e => hne (by rw [e]))]
set_option maxHeartbeats 1000000 in
theorem ssort_any (r : Int) (g c : Nat) (l : List VC) (B : Nat) (w : World) (hown : OwnF w B (.slice (some ⟨g, 0, none⟩) l.length c) r (l.map (·.1))) (hl : l.length ≤ 1000000000) :
    Calls Try.prog 24 #[.slice (some ⟨g, 0, none⟩) l.length c, .func (.func 25) #[] #[]] w fun e w' =>
      e = .returned (.tuple #[]) ∧ ∃ d : List VC, OwnF w' B (.slice (some ⟨g, 0, none⟩) l.length c) r (d.map (·.1)) ∧ w.grownBy w' (some g) ∧ d.Perm l ∧ d.Pairwise (fun x y => x.1.e.block ≤ y.1.e.block) := by
  have eg : ∀ args w, (callFunc 25 args).run Try.prog w = .ok (.enter 25 args) w := enters_of Try.func25 (by kernel_rfl) rfl
  have hcl : CmpLays Try.prog 25 #[] (fdV r) 12 cmpV g 0 l.toArray.size w := fun _ _ _ _ x y => scmp_any r x.1 y.1 _ x.2 y.2
  have hlt := (hown.lt g rfl).2
  have hcon := AnyQ.slices_SortFunc Try.sortFd 12 Try.isAgg43 Try.sizeOf43 (fdV r) (fdV_len r) (fdV_one r) cmpV swo_V 25 #[] g 0 c l.toArray w eg hcl hown.holdsK hlt (by simp; omega)
  change Calls Try.prog 24 _ _ _ at hcon
  have hsz : l.toArray.size = l.length := by simp
  rw [hsz] at hcon
  refine hcon.mono ?_
  rintro e w' ⟨rfl, d', n, os, hp, hs, rfl⟩
  obtain ⟨p1, _, p3⟩ := hp
  have hd : d'.size = l.length := by rw [p1]; simp
  obtain ⟨o1, o2⟩ := hown.sorted n d' os hd
  refine ⟨rfl, d'.toList, o1, o2, ?_, ?_⟩
  · rw [Array.extract_eq_self_of_le (by omega), Array.extract_eq_self_of_le (by simp)] at p3
    simpa using p3
  · rw [List.pairwise_iff_getElem]
    intro i j hi hj hij
    have h1 := hs i j (Nat.zero_le _) hij (by simp at hj; omega)
    rw [ltV_is, getElem!_pos d' j (by simpa using hj), getElem!_pos d' i (by simpa using hi)] at h1
    have := of_decide_eq_false h1
    simp only [Array.getElem_toList]
    omega
theorem ssort_own (r : Int) (v : Value) (X : List Cd) (B : Nat) (w : World) (hown : OwnF w B v r X) (hv : ∀ c ∈ X, 0 ≤ c.e.block ∧ c.e.block < 65536) (hl : X.length ≤ 1000000000) :
    Calls Try.prog 24 #[v, .func (.func 25) #[] #[]] w fun e w' =>
      e = .returned (.tuple #[]) ∧ ∃ d : List Cd, OwnF w' B v r d ∧ w.grownBy w' v.ownBlock ∧ d.Perm X ∧ d.Pairwise (fun x y => x.e.block ≤ y.e.block) := by
  have h2 := hown.2
  rcases h2 with ⟨rfl, hn⟩ | ⟨g, cap, cur, rfl, _⟩
  · obtain rfl := List.eq_nil_of_length_eq_zero hn
    have hcon := AnyF.slices_SortFunc_none { Try.sortFd with } none 0 (.func (.func 25) #[] #[]) w
    change Calls Try.prog 24 _ _ _ at hcon
    refine hcon.mono ?_
    rintro e w' ⟨rfl, rfl⟩
    exact ⟨rfl, [], hown, ⟨rfl, rfl, rfl, Nat.le_refl _, fun _ _ _ => rfl⟩, List.Perm.refl _, List.Pairwise.nil⟩
  · obtain ⟨l, hlX⟩ : ∃ l : List VC, l.map (·.1) = X := ⟨X.pmap Subtype.mk hv, by rw [List.map_pmap]; simp⟩
    subst hlX
    rw [List.length_map] at hown hl ⊢
    refine (ssort_any r g cap l B w hown hl).mono ?_
    rintro e w' ⟨rfl, d, h1, h2, h3, h4⟩
    exact ⟨rfl, d.map (·.1), h1, h2, h3.map _, List.pairwise_map.2 h4⟩
end Go.Proofs.Ytbiecglooagmmaa
