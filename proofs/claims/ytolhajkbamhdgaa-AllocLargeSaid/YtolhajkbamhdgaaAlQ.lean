/-
  Plain laws on maps of slots: which slots a list names, whether one is named twice, the free runs of a list of marks.
  Conditions: as each theorem says.
-/
import Derived.Test.YtolhajkbamhdgaaRcV
import Derived.Test.YtolhajkbamhdgaaAlP
namespace Go.Proofs.Ytolhajkbamhdgaa
set_option linter.unusedSimpArgs false
set_option linter.unusedVariables false

def longB (n : Int) (y : E) : Bool := decide (n ≤ y.n)
/-- Where the first run begins that is long enough. -/
def fitS (l : List E) (n : Int) : Option Int := (l.find? (longB n)).map E.s
theorem find_at (l : List E) (f : E → Bool) (x : E) (h : l.find? f = some x) : ∃ (k : Nat) (hk : k < l.length), l[k] = x ∧ (∀ y ∈ l.take k, f y = false) ∧ f x = true := by
  induction l with
  | nil => simp at h
  | cons z r ih =>
    by_cases hz : f z = true
    · rw [List.find?_cons_of_pos hz] at h
      injection h with h
      subst h
      exact ⟨0, by simp, rfl, by simp, hz⟩
    · rw [List.find?_cons_of_neg hz] at h
      obtain ⟨k, hk, h1, h2, h3⟩ := ih h
      refine ⟨k + 1, by simpa using hk, by simpa using h1, fun y hy => ?_, h3⟩
      rw [List.take_succ_cons, List.mem_cons] at hy
      rcases hy with rfl | hy
      · simpa using hz
      · exact h2 y hy
/-- The lowest slots of runs: what is taken, and how many are still wanted. -/
def lowStep (st : List E × Int) (x : E) : List E × Int := (if 0 < min st.2 x.n then st.1 ++ [⟨0, min st.2 x.n, x.s⟩] else st.1, st.2 - min st.2 x.n)
def lowAll (l : List E) (n : Int) : List E × Int := l.foldl lowStep ([], n)
theorem lowAll_take (l : List E) (n : Int) (k : Nat) (h : k < l.length) : lowAll (l.take (k + 1)) n = lowStep (lowAll (l.take k) n) l[k] := by
  rw [List.take_succ_eq_append_getElem h]
  simp only [lowAll, List.foldl_append, List.foldl_cons, List.foldl_nil]
theorem low_facts (l : List E) (n : Int) (hn : 0 ≤ n) (h : ∀ x ∈ l, 1 ≤ x.n) (k : Nat) : k ≤ l.length → (0 ≤ (lowAll (l.take k) n).2 ∧ (lowAll (l.take k) n).2 ≤ n) ∧ (lowAll (l.take k) n).1.length ≤ k := by
  induction k with
  | zero => intro _; simp [lowAll, hn]
  | succ k ih =>
    intro hk
    have hlt : k < l.length := by omega
    obtain ⟨⟨h1, h2⟩, h3⟩ := ih (by omega)
    have h4 := h _ (List.getElem_mem hlt)
    rw [lowAll_take l n k hlt]
    simp only [lowStep]
    refine ⟨by omega, ?_⟩
    split
    · simp; omega
    · omega
def E.flat (x : E) : E := ⟨0, x.n, x.s⟩
def flatL (l : List E) : List E := l.map E.flat
theorem flat_wf {N : Nat} {l : List E} (hN : N ≤ 65536) (h : permB N l = true) : wfL (flatL l) := by
  intro x hx
  obtain ⟨y, hy, rfl⟩ := List.mem_map.1 hx
  have := (permB_iff _ _).1 h y hy
  exact ⟨by simp [E.flat], by simp only [E.flat]; omega, by simp only [E.flat]; omega⟩
/-- The runs of a list, and whether no slot is listed twice. -/
def onceB (l : List E) : Bool := (lenL (runsL (flatL l)) == lenL l)
/-! ### Slots that a list names -/
def listF (l : List E) (i : Nat) : Bool := l.any fun x => inX x i
theorem listF_append (A B : List E) (i : Nat) : listF (A ++ B) i = (listF A i || listF B i) := by simp [listF]
theorem listF_one (x : E) (i : Nat) : listF [x] i = inX x i := by simp [listF]
theorem listF_nil (i : Nat) : listF [] i = false := rfl
theorem listF_take (l : List E) (k : Nat) (h : k < l.length) (i : Nat) : listF (l.take (k + 1)) i = (listF (l.take k) i || inX l[k] i) := by
  rw [List.take_succ_eq_append_getElem h, listF_append, listF_one]
theorem listF_iff (l : List E) (i : Nat) : listF l i = true ↔ ∃ x ∈ l, x.s ≤ (i : Int) ∧ (i : Int) < x.s + x.n := by
  simp only [listF, List.any_eq_true, inX_iff]
theorem listF_far {N : Nat} {l : List E} (h : permB N l = true) (i : Nat) (hi : N ≤ i) : listF l i = false := by
  rw [Bool.eq_false_iff]
  intro hc
  obtain ⟨x, hx, h1, h2⟩ := (listF_iff _ _).1 hc
  have := (permB_iff _ _).1 h x hx
  omega
theorem flat_ok {N : Nat} {l : List E} (hN : N ≤ 65536) (h : permB N l = true) : ∀ x ∈ flatL l, okB x = true := by
  intro x hx
  obtain ⟨y, hy, rfl⟩ := List.mem_map.1 hx
  have := (permB_iff _ _).1 h y hy
  exact (okB_iff _).2 ⟨by simp only [E.flat]; omega, by simp [E.flat], by simp only [E.flat]; omega, by simp only [E.flat]; omega, by simp only [E.flat]; omega⟩
theorem hasB_flat {N : Nat} {l : List E} (hN : N ≤ 65536) (h : permB N l = true) (i : Nat) : hasB (flatL l) i = listF l i := by
  rw [Bool.eq_iff_iff, listF_iff]
  have hok := flat_ok hN h
  simp only [hasB, List.any_eq_true, Bool.and_eq_true, inX_iff]
  constructor
  · rintro ⟨x, hx, _, h1, h2⟩
    obtain ⟨y, hy, rfl⟩ := List.mem_map.1 hx
    exact ⟨y, hy, h1, h2⟩
  · rintro ⟨y, hy, h1, h2⟩
    have hm : y.flat ∈ flatL l := List.mem_map.2 ⟨y, hy, rfl⟩
    exact ⟨y.flat, hm, hok _ hm, h1, h2⟩
theorem area_listF {N : Nat} {l : List E} (hN : N ≤ 65536) (h : permB N l = true) : lenL (runsL (flatL l)) = area (listF l) N := by
  rw [lenL_canon _ (runs_facts _).1, area_congr _ (listF l) _ fun i _ => by rw [hasB_runs, hasB_flat hN h], area_cut _ N 65536 hN fun i hi _ => listF_far h i hi]
/-- How many slots of an extent are listed already. -/
def clashN (N : Nat) (l : List E) (x : E) : Nat := area (fun i => listF l i && inX x i) N
/-- How many slots are listed too often. -/
def gapN (N : Nat) (l : List E) : Int := lenL l - area (listF l) N
theorem lenL_append (A B : List E) : lenL (A ++ B) = lenL A + lenL B := by simp [lenL]
theorem lenL_one (x : E) : lenL [x] = x.n := by simp [lenL]
theorem gap_nil (N : Nat) : gapN N [] = 0 := by
  unfold gapN
  rw [area_false (listF []) _ fun i _ => rfl]
  rfl
theorem gap_snoc (N : Nat) (l : List E) (x : E) (h : 1 ≤ x.n ∧ 0 ≤ x.s ∧ x.s + x.n ≤ N) : gapN N (l ++ [x]) = gapN N l + clashN N l x := by
  unfold gapN clashN
  have h1 := area_or_and (listF l) (inX x) N
  have h2 := area_inX x N h.2.1 (by omega) h.2.2
  rw [lenL_append, lenL_one, area_congr (listF (l ++ [x])) (fun i => listF l i || inX x i) N fun i _ => by rw [listF_append, listF_one]]
  omega
theorem gap_nonneg (N : Nat) (l : List E) : permB N l = true → 0 ≤ gapN N l := by
  refine snoc_ind (P := fun l => permB N l = true → 0 ≤ gapN N l) (fun _ => by rw [gap_nil]; exact Int.le_refl _) (fun l x ih h => ?_) l
  rw [permB_snoc, Bool.and_eq_true] at h
  have := ih h.1
  rw [gap_snoc _ _ _ (of_decide_eq_true h.2)]
  omega
theorem gap_take {N : Nat} {l : List E} (h : permB N l = true) (k : Nat) (hk : k < l.length) : gapN N (l.take (k + 1)) = gapN N (l.take k) + clashN N (l.take k) l[k] := by
  rw [List.take_succ_eq_append_getElem hk]
  exact gap_snoc _ _ _ ((permB_iff _ _).1 h _ (List.getElem_mem hk))
theorem gap_mono {N : Nat} {l : List E} (h : permB N l = true) (d : Nat) : ∀ k, k + d = l.length → gapN N (l.take k) ≤ gapN N l := by
  induction d with
  | zero => intro k hk; rw [List.take_of_length_le (by omega)]; exact Int.le_refl _
  | succ d ih =>
    intro k hk
    have h1 := ih (k + 1) (by omega)
    have h2 := gap_take h k (by omega)
    omega
theorem once_iff {N : Nat} {l : List E} (hN : N ≤ 65536) (h : permB N l = true) : onceB l = true ↔ gapN N l = 0 := by
  unfold onceB gapN
  rw [area_listF hN h, beq_iff_eq]
  omega
/-- The list is permitted: its extents lie in the map, and no slot is listed twice. -/
def rangeB (N : Nat) (l : List E) : Bool := permB N l && onceB l
theorem range_perm {N : Nat} {l : List E} (k : Nat) (hk : k < l.length) (hx : ¬ (1 ≤ l[k].n ∧ 0 ≤ l[k].s ∧ l[k].s + l[k].n ≤ N)) : rangeB N l = false := by
  unfold rangeB
  cases hp : permB N l
  · rfl
  · exact absurd ((permB_iff _ _).1 hp _ (List.getElem_mem hk)) hx
theorem range_clash {N : Nat} {l : List E} (hN : N ≤ 65536) (k : Nat) (hk : k < l.length) (p : Nat) (hp : p < N) (h1 : listF (l.take k) p = true) (h2 : inX l[k] p = true) : rangeB N l = false := by
  unfold rangeB
  cases hP : permB N l
  · rfl
  · rw [Bool.true_and, Bool.eq_false_iff]
    intro ho
    have hg := (once_iff hN hP).1 ho
    have h3 := gap_mono hP (l.length - (k + 1)) (k + 1) (by omega)
    have h4 := gap_take hP k hk
    have h5 := gap_nonneg N (l.take k) (by
      rw [permB_iff]
      exact fun x hx => (permB_iff _ _).1 hP x (List.mem_of_mem_take hx))
    have h6 : clashN N (l.take k) l[k] ≠ 0 := fun e => by
      have := (area_zero_iff _ _).1 e p hp
      rw [h1, h2] at this
      cases this
    omega
theorem range_yes {N : Nat} {l : List E} (hN : N ≤ 65536) (hp : permB N l = true) (hg : gapN N l = 0) : rangeB N l = true := by
  unfold rangeB
  rw [hp, (once_iff hN hp).2 hg]
  rfl
theorem range_parts {N : Nat} {l : List E} (hN : N ≤ 65536) (h : rangeB N l = true) : permB N l = true ∧ onceB l = true ∧ gapN N l = 0 := by
  unfold rangeB at h
  rw [Bool.and_eq_true] at h
  exact ⟨h.1, h.2, (once_iff hN h.1).1 h.2⟩
theorem gap_next {N : Nat} {l : List E} (k : Nat) (hk : k < l.length) (hx : 1 ≤ l[k].n ∧ 0 ≤ l[k].s ∧ l[k].s + l[k].n ≤ N) (h : ∀ p, p < N → inX l[k] p = true → listF (l.take k) p = false) : gapN N (l.take (k + 1)) = gapN N (l.take k) := by
  rw [List.take_succ_eq_append_getElem hk, gap_snoc _ _ _ hx, show clashN N (l.take k) l[k] = 0 from (area_zero_iff _ _).2 fun p hp => by
    cases h2 : inX l[k] p
    · simp
    · rw [h p hp h2]; rfl]
  omega
theorem seen_one (L : Nat → Bool) (s n a : Nat) (i : Nat) : seenB L s (s + n) i = (L i || inX ⟨a, n, s⟩ i) := by
  unfold seenB inX
  congr 1
  rw [Bool.eq_iff_iff]
  simp only [Bool.and_eq_true, decide_eq_true_eq]
  omega

/-! ### Lists of marks -/
def freeF (M : List Bool) (i : Nat) : Bool := !M.getD i true
/-- The free runs. -/
def freeR (M : List Bool) : List E := runsL (picks (freeF M) M.length)
theorem freeR_canon (M : List Bool) : Canon (freeR M) := (runs_facts _).1
theorem freeF_far (M : List Bool) (i : Nat) (h : M.length ≤ i) : freeF M i = false := by
  unfold freeF
  rw [List.getD_eq_getElem?_getD, List.getElem?_eq_none h]
  rfl
theorem freeF_in (M : List Bool) (i : Nat) (h : i < M.length) : freeF M i = !M.getD i false := by
  unfold freeF
  rw [List.getD_eq_getElem?_getD, List.getD_eq_getElem?_getD, List.getElem?_eq_getElem h]
  rfl
theorem freeF_lt {M : List Bool} {i : Nat} (h : freeF M i = true) : i < M.length := by
  rcases Nat.lt_or_ge i M.length with h1 | h1
  · exact h1
  · rw [freeF_far M i h1] at h; cases h
theorem hasB_free (M : List Bool) (hN : M.length ≤ 65536) (i : Nat) : hasB (freeR M) i = freeF M i := by
  unfold freeR
  rw [hasB_runs, hasB_picks _ _ hN]
  by_cases h : i < M.length
  · simp [h]
  · rw [freeF_far M i (by omega)]; simp
theorem lenL_free (M : List Bool) (hN : M.length ≤ 65536) : lenL (freeR M) = area (freeF M) M.length := lenL_picks _ _ hN
/-- The marks of the listed slots changed. -/
def chgM (M : List Bool) (l : List E) (u : Bool) : List Bool := mk (fun i => if listF l i then u else M.getD i false) M.length
theorem chgM_length (M : List Bool) (l : List E) (u : Bool) : (chgM M l u).length = M.length := mk_length _ _
/-- How many listed slots bear the new mark already. -/
def stN (M : List Bool) (l : List E) (u : Bool) : Nat := area (fun i => listF l i && (M.getD i false == u)) M.length
theorem free_chg (M : List Bool) (l : List E) (u : Bool) (i : Nat) (hi : i < M.length) : freeF (chgM M l u) i = if listF l i then !u else freeF M i := by
  rw [freeF_in _ _ (by rw [chgM_length]; exact hi), freeF_in _ _ hi]
  unfold chgM
  rw [mk_get _ _ _ hi]
  split <;> rfl
theorem hasB_chg (M : List Bool) (l : List E) (u : Bool) (hN : M.length ≤ 65536) (i : Nat) : hasB (freeR (chgM M l u)) i = (decide (i < M.length) && if listF l i then !u else freeF M i) := by
  rw [hasB_free _ (by rw [chgM_length]; exact hN)]
  by_cases hi : i < M.length
  · rw [free_chg _ _ _ _ hi]; simp [hi]
  · rw [freeF_far _ _ (by rw [chgM_length]; omega)]; simp [hi]
section
variable {M : List Bool} {l : List E} (hN : M.length ≤ 65536) (hp : permB M.length l = true)
include hN hp
theorem without_free : Canon (withoutL (freeR M) (runsL (flatL l))) ∧ ∀ i, hasB (withoutL (freeR M) (runsL (flatL l))) i = (freeF M i && !listF l i) := by
  obtain ⟨h1, h2⟩ := without_facts (runsL (flatL l)) (fun x hx => ((runs_facts (flatL l)).1.1 x hx).2) (freeR M) (freeR_canon M)
  exact ⟨h1, fun i => by rw [h2, hasB_free M hN, hasB_runs, hasB_flat hN hp]⟩
theorem mark_is : withoutL (freeR M) (runsL (flatL l)) = freeR (chgM M l true) := by
  obtain ⟨h1, h2⟩ := without_free hN hp
  refine runs_ext h1 (freeR_canon _) fun i _ => ?_
  rw [h2, hasB_chg _ _ _ hN]
  by_cases hi : i < M.length
  · cases listF l i <;> simp [hi]
  · rw [freeF_far M i (by omega)]; simp [hi]
theorem mark_size : lenL (withoutL (freeR M) (runsL (flatL l))) + lenL (runsL (flatL l)) = lenL (freeR M) ↔ stN M l true = 0 := by
  obtain ⟨h1, h2⟩ := without_free hN hp
  have e1 : lenL (withoutL (freeR M) (runsL (flatL l))) = area (fun i => freeF M i && !listF l i) M.length := by
    rw [lenL_canon _ h1, area_congr _ _ _ fun i _ => h2 i, area_cut _ _ _ hN fun i hi _ => by rw [freeF_far M i hi]; rfl]
  have e2 := area_listF hN hp
  have e3 := lenL_free M hN
  have e4 := area_split (freeF M) (listF l) M.length
  have e5 := area_split (listF l) (freeF M) M.length
  have e6 : area (fun i => freeF M i && listF l i) M.length = area (fun i => listF l i && freeF M i) M.length := area_congr _ _ _ fun i _ => Bool.and_comm _ _
  have e7 : area (fun i => listF l i && !freeF M i) M.length = stN M l true := area_congr _ _ _ fun i hi => by
    rw [freeF_in M i hi]
    cases listF l i <;> cases M.getD i false <;> rfl
  rw [e1, e2, e3]
  omega
theorem hasB_both : Canon (runsL (freeR M ++ runsL (flatL l))) ∧ ∀ i, hasB (runsL (freeR M ++ runsL (flatL l))) i = (freeF M i || listF l i) := by
  refine ⟨(runs_facts _).1, fun i => ?_⟩
  rw [hasB_runs, hasB_append, hasB_free M hN, hasB_runs, hasB_flat hN hp]
theorem give_is : runsL (freeR M ++ runsL (flatL l)) = freeR (chgM M l false) := by
  obtain ⟨h1, h2⟩ := hasB_both hN hp
  refine runs_ext h1 (freeR_canon _) fun i _ => ?_
  rw [h2, hasB_chg _ _ _ hN]
  by_cases hi : i < M.length
  · cases listF l i <;> simp [hi]
  · rw [freeF_far M i (by omega), listF_far hp i (by omega)]; simp [hi]
theorem give_size : lenL (runsL (freeR M ++ runsL (flatL l))) = lenL (freeR M) + lenL (runsL (flatL l)) ↔ stN M l false = 0 := by
  obtain ⟨h1, h2⟩ := hasB_both hN hp
  have e1 : lenL (runsL (freeR M ++ runsL (flatL l))) = area (fun i => freeF M i || listF l i) M.length := by
    rw [lenL_canon _ h1, area_congr _ _ _ fun i _ => h2 i, area_cut _ _ _ hN fun i hi _ => by rw [freeF_far M i hi, listF_far hp i hi]; rfl]
  have e2 := area_listF hN hp
  have e3 := lenL_free M hN
  have e4 := area_or_and (freeF M) (listF l) M.length
  have e7 : area (fun i => freeF M i && listF l i) M.length = stN M l false := area_congr _ _ _ fun i hi => by
    rw [freeF_in M i hi]
    cases listF l i <;> cases M.getD i false <;> rfl
  rw [e1, e2, e3]
  omega
end
end Go.Proofs.Ytolhajkbamhdgaa
