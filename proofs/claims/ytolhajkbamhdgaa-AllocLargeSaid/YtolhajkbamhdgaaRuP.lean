/-
  Plain mathematics: the runs of the slots of extents.
-/
import Derived.Test.YtolhajkbamhdgaaTgV
namespace Go.Proofs.Ytolhajkbamhdgaa
set_option linter.unusedSimpArgs false
set_option linter.unusedVariables false

def Has (l : List E) (s : Int) : Prop := ∃ x ∈ l, okB x = true ∧ x.s ≤ s ∧ s < x.s + x.n
/-- Runs in ascending order, with gaps between them. -/
def Canon (R : List E) : Prop := (∀ x ∈ R, x.a = 0 ∧ okB x = true) ∧ R.Pairwise (fun x y => x.s + x.n < y.s)
def E.plain (x : E) : E := ⟨x.s, x.n, x.s⟩
theorem has_append (A B : List E) (s : Int) : Has (A ++ B) s ↔ Has A s ∨ Has B s := by
  unfold Has
  constructor
  · rintro ⟨x, hx, h⟩
    rcases List.mem_append.1 hx with hx | hx
    · exact .inl ⟨x, hx, h⟩
    · exact .inr ⟨x, hx, h⟩
  · rintro (⟨x, hx, h⟩ | ⟨x, hx, h⟩)
    · exact ⟨x, List.mem_append_left _ hx, h⟩
    · exact ⟨x, List.mem_append_right _ hx, h⟩
theorem has_one (x : E) (s : Int) : Has [x] s ↔ okB x = true ∧ x.s ≤ s ∧ s < x.s + x.n := by
  unfold Has; simp
theorem has_one' (x : E) (s : Int) (h : okB x = true) : Has [x] s ↔ x.s ≤ s ∧ s < x.s + x.n := by
  rw [has_one]; exact ⟨fun h => h.2, fun g => ⟨h, g⟩⟩
theorem has_nil (s : Int) : ¬ Has [] s := by unfold Has; simp
theorem join_gap (l : List E) : l.Pairwise (fun x y => x.a + x.n < y.a) → joinL l = l := by
  induction l with
  | nil => intro _; rfl
  | cons x r ih =>
    intro h
    obtain ⟨h1, h2⟩ := List.pairwise_cons.1 h
    have e : joinL (x :: r) = pushAll [x] r := rfl
    rw [e, pushAll_apart [x] r (fun y hy z hz => by simp at hy; subst hy; exact h1 z hz), ih h2]
    rfl
theorem plain_valid {R : List E} (h : Canon R) : validB (R.map E.plain) = true := by
  rw [validB_iff]
  refine ⟨fun y hy => ?_, ?_⟩
  · obtain ⟨x, hx, rfl⟩ := List.mem_map.1 hy
    have := (okB_iff x).1 (h.1 x hx).2
    rw [okB_iff]
    simp only [E.plain]
    omega
  · rw [List.pairwise_map]
    refine h.2.imp ?_
    intro x y hxy
    simp only [E.plain]
    omega
theorem plain_slot {R : List E} (h : Canon R) (p : Int) : (Has R p → slotAt (R.map E.plain) p = some p) ∧ (¬ Has R p → slotAt (R.map E.plain) p = none) := by
  refine ⟨?_, fun hn => ?_⟩
  · rintro ⟨x, hx, h1, h2⟩
    rw [slotAt_mem _ (plain_valid h) x.plain (List.mem_map.2 ⟨x, hx, rfl⟩) p ((hits_iff _ _).2 (by simp only [E.plain]; omega))]
    simp only [E.plain, Option.some.injEq]
    omega
  · refine slotAt_none _ _ fun y hy => ?_
    obtain ⟨x, hx, rfl⟩ := List.mem_map.1 hy
    cases hh : hits p x.plain with
    | false => rfl
    | true =>
      rw [hits_iff] at hh
      simp only [E.plain] at hh
      exact absurd ⟨x, hx, (h.1 x hx).2, hh.1, hh.2⟩ hn
/-- Runs are told by the slots that they have. -/
theorem canon_unique (A B : List E) (hA : Canon A) (hB : Canon B) (h : ∀ s, Has A s ↔ Has B s) : A = B := by
  have e : ∀ R : List E, Canon R → joinL (R.map E.plain) = R.map E.plain := fun R hR => join_gap _ (by
    rw [List.pairwise_map]
    exact hR.2.imp fun hxy => by simp only [E.plain]; exact hxy)
  have hm : A.map E.plain = B.map E.plain := by
    rw [← e A hA, ← e B hB]
    refine join_unique _ _ (plain_valid hA) (plain_valid hB) fun p => ?_
    by_cases hp : Has A p
    · rw [(plain_slot hA p).1 hp, (plain_slot hB p).1 ((h p).1 hp)]
    · rw [(plain_slot hA p).2 hp, (plain_slot hB p).2 (fun c => hp ((h p).2 c))]
  have back : ∀ R : List E, Canon R → (R.map E.plain).map (fun x => (⟨0, x.n, x.s⟩ : E)) = R := fun R hR => by
    rw [List.map_map]
    conv => rhs; rw [← List.map_id R]
    refine List.map_congr_left fun x hx => ?_
    exact E.ext' (hR.1 x hx).1.symm rfl rfl
  rw [← back A hA, ← back B hB, hm]

/-! ### Merging sorted extents -/
def E.upto (y : E) (t : Int) : E := ⟨y.a, max y.n (t - y.s), y.s⟩
def pushR (R : List E) (x : E) : List E :=
  match R.getLast? with
  | some y => if decide (x.s ≤ y.s + y.n) then R.dropLast ++ [y.upto (x.s + x.n)] else R ++ [⟨0, x.n, x.s⟩]
  | none => [⟨0, x.n, x.s⟩]
def mergeL (l : List E) : List E := l.foldl pushR []
theorem pushR_nil (x : E) : pushR [] x = [⟨0, x.n, x.s⟩] := rfl
theorem pushR_yes (l : List E) (y x : E) (h : x.s ≤ y.s + y.n) : pushR (l ++ [y]) x = l ++ [y.upto (x.s + x.n)] := by
  simp [pushR, h]
theorem pushR_no (l : List E) (y x : E) (h : ¬ x.s ≤ y.s + y.n) : pushR (l ++ [y]) x = l ++ [y] ++ [⟨0, x.n, x.s⟩] := by
  simp [pushR, h]
theorem mergeL_snoc (l : List E) (x : E) : mergeL (l ++ [x]) = pushR (mergeL l) x := by simp [mergeL]
theorem mergeL_take (l : List E) (k : Nat) (h : k < l.length) : mergeL (l.take (k + 1)) = pushR (mergeL (l.take k)) l[k] := by
  rw [List.take_succ_eq_append_getElem h, mergeL_snoc]
theorem pushR_length (l : List E) (x : E) : (pushR l x).length ≤ l.length + 1 := by
  by_cases h : l = []
  · subst h; simp [pushR]
  · obtain ⟨l', y, rfl⟩ := snoc_of l h
    by_cases hm : x.s ≤ y.s + y.n
    · rw [pushR_yes _ _ _ hm]; simp
    · rw [pushR_no _ _ _ hm]; simp
theorem mergeL_length (l : List E) : (mergeL l).length ≤ l.length := by
  induction l using snoc_ind with
  | h0 => simp [mergeL]
  | h1 l x ih =>
    rw [mergeL_snoc]
    have := pushR_length (mergeL l) x
    simp
    omega
theorem pushR_facts (R : List E) (x : E) (hR : Canon R) (hx : okB x = true) (hs : ∀ y ∈ R, y.s ≤ x.s) :
    Canon (pushR R x) ∧ (∀ s, Has (pushR R x) s ↔ Has R s ∨ (x.s ≤ s ∧ s < x.s + x.n)) ∧ ∀ y ∈ pushR R x, y.s ≤ x.s := by
  have hx' := (okB_iff x).1 hx
  have hz : okB (⟨0, x.n, x.s⟩ : E) = true := by rw [okB_iff]; simp only; omega
  have hone : ∀ s, Has [(⟨0, x.n, x.s⟩ : E)] s ↔ (x.s ≤ s ∧ s < x.s + x.n) := fun s => by
    rw [has_one]; exact ⟨fun h => h.2, fun h => ⟨hz, h⟩⟩
  by_cases h : R = []
  · subst h
    rw [pushR_nil]
    refine ⟨⟨fun y hy => ?_, by simp⟩, fun s => ?_, fun y hy => ?_⟩
    · simp at hy; subst hy; exact ⟨rfl, hz⟩
    · rw [hone]
      exact ⟨.inr, fun h => h.resolve_left (has_nil s)⟩
    · simp at hy; subst hy; exact Int.le_refl _
  · obtain ⟨C, y, rfl⟩ := snoc_of R h
    obtain ⟨c1, c2⟩ := hR
    obtain ⟨p1, p2, p3⟩ := List.pairwise_append.1 c2
    have hy := c1 y (by simp)
    have hy' := (okB_iff y).1 hy.2
    have hys := hs y (by simp)
    by_cases hm : x.s ≤ y.s + y.n
    · rw [pushR_yes _ _ _ hm]
      have hu : okB (y.upto (x.s + x.n)) = true := by
        rw [okB_iff]
        have := hy.1
        simp only [E.upto]
        omega
      refine ⟨⟨fun z hzz => ?_, ?_⟩, fun s => ?_, fun z hzz => ?_⟩
      · rcases List.mem_append.1 hzz with hzz | hzz
        · exact c1 z (by simp [hzz])
        · simp at hzz; subst hzz; exact ⟨hy.1, hu⟩
      · refine List.pairwise_append.2 ⟨p1, by simp, fun z hzz v hv => ?_⟩
        simp at hv; subst hv
        exact p3 z hzz y (by simp)
      · rw [has_append, has_append, has_one' _ _ hu, has_one' _ _ hy.2]
        show (Has C s ∨ y.s ≤ s ∧ s < y.s + max y.n (x.s + x.n - y.s)) ↔ _
        constructor
        · rintro (h | h)
          · exact .inl (.inl h)
          · by_cases h2 : s < y.s + y.n
            · exact .inl (.inr ⟨h.1, h2⟩)
            · exact .inr (by omega)
        · rintro ((h | h) | h)
          · exact .inl h
          · exact .inr (by omega)
          · exact .inr (by omega)
      · rcases List.mem_append.1 hzz with hzz | hzz
        · exact hs z (by simp [hzz])
        · simp at hzz; subst hzz; exact hys
    · rw [pushR_no _ _ _ hm]
      refine ⟨⟨fun z hzz => ?_, ?_⟩, fun s => ?_, fun z hzz => ?_⟩
      · rcases List.mem_append.1 hzz with hzz | hzz
        · exact c1 z hzz
        · simp at hzz; subst hzz; exact ⟨rfl, hz⟩
      · refine List.pairwise_append.2 ⟨c2, by simp, fun z hzz v hv => ?_⟩
        simp at hv; subst hv
        rcases List.mem_append.1 hzz with hzz | hzz
        · have := p3 z hzz y (by simp)
          simp only
          omega
        · simp at hzz; subst hzz
          simp only
          omega
      · rw [has_append, hone]
      · rcases List.mem_append.1 hzz with hzz | hzz
        · exact hs z hzz
        · simp at hzz; subst hzz; exact Int.le_refl _
theorem mergeL_facts (l : List E) : (∀ x ∈ l, okB x = true) → l.Pairwise (fun x y => x.s ≤ y.s) → Canon (mergeL l) ∧ (∀ s, Has (mergeL l) s ↔ Has l s) ∧ ∀ t, (∀ x ∈ l, x.s ≤ t) → ∀ y ∈ mergeL l, y.s ≤ t := by
  induction l using snoc_ind with
  | h0 => intro _ _; exact ⟨⟨by simp [mergeL], by simp [mergeL]⟩, fun s => Iff.rfl, by simp [mergeL]⟩
  | h1 l x ih =>
    intro h1 h2
    obtain ⟨p1, _, p3⟩ := List.pairwise_append.1 h2
    obtain ⟨i1, i2, i3⟩ := ih (fun y hy => h1 y (by simp [hy])) p1
    obtain ⟨f1, f2, f3⟩ := pushR_facts (mergeL l) x i1 (h1 x (by simp)) (i3 x.s fun y hy => p3 y hy x (by simp))
    rw [mergeL_snoc]
    refine ⟨f1, fun s => ?_, fun t ht y hy => ?_⟩
    · rw [f2, i2, has_append, has_one]
      simp only [h1 x (by simp), true_and]
    · exact Int.le_trans (f3 y hy) (ht x (by simp))
/-- What Runs returns. -/
def runsL (l : List E) : List E := mergeL ((l.filter okB).mergeSort fun x y => decide (x.s ≤ y.s))
theorem has_filter (l : List E) (s : Int) : Has (l.filter okB) s ↔ Has l s := by
  unfold Has
  constructor
  · rintro ⟨x, hx, h⟩
    exact ⟨x, (List.mem_filter.1 hx).1, h⟩
  · rintro ⟨x, hx, h⟩
    exact ⟨x, List.mem_filter.2 ⟨hx, h.1⟩, h⟩
theorem has_mem {A B : List E} (h : ∀ x, x ∈ A ↔ x ∈ B) (s : Int) : Has A s ↔ Has B s := by
  unfold Has
  constructor
  · rintro ⟨x, hx, h2⟩; exact ⟨x, (h x).1 hx, h2⟩
  · rintro ⟨x, hx, h2⟩; exact ⟨x, (h x).2 hx, h2⟩
theorem runs_facts (l : List E) : Canon (runsL l) ∧ ∀ s, Has (runsL l) s ↔ Has l s := by
  have hp := List.mergeSort_perm (l.filter okB) (fun x y => decide (x.s ≤ y.s))
  have hs : ((l.filter okB).mergeSort fun x y => decide (x.s ≤ y.s)).Pairwise (fun x y => decide (x.s ≤ y.s) = true) :=
    List.pairwise_mergeSort (fun x y z h1 h2 => by simp only [decide_eq_true_eq] at *; omega) (fun x y => by simp only [Bool.or_eq_true, decide_eq_true_eq]; omega) _
  obtain ⟨f1, f2, _⟩ := mergeL_facts _ (fun x hx => (List.mem_filter.1 (hp.mem_iff.1 hx)).2) (hs.imp fun h => of_decide_eq_true h)
  exact ⟨f1, fun s => (f2 s).trans ((has_mem (fun x => hp.mem_iff) s).trans (has_filter l s))⟩
theorem runs_is (l R : List E) (h1 : Canon R) (h2 : ∀ s, Has R s ↔ Has l s) : R = runsL l := by
  obtain ⟨f1, f2⟩ := runs_facts l
  exact canon_unique _ _ h1 f1 fun s => (h2 s).trans (f2 s).symm
theorem runs_sorted (l d : List E) (h1 : ∀ x, x ∈ d ↔ x ∈ l.filter okB) (h2 : d.Pairwise (fun x y => x.s ≤ y.s)) : mergeL d = runsL l := by
  obtain ⟨f1, f2, _⟩ := mergeL_facts d (fun x hx => (List.mem_filter.1 ((h1 x).1 hx)).2) h2
  exact runs_is _ _ f1 fun s => (f2 s).trans ((has_mem h1 s).trans (has_filter l s))
theorem runs_mem {A B : List E} (h : ∀ x, x ∈ A ↔ x ∈ B) : runsL A = runsL B := by
  obtain ⟨f1, f2⟩ := runs_facts A
  exact runs_is _ _ f1 fun s => (f2 s).trans (has_mem h s)
theorem runs_again (l : List E) : runsL (runsL l) = runsL l := by
  obtain ⟨f1, _⟩ := runs_facts l
  exact (runs_is (runsL l) _ f1 fun s => Iff.rfl).symm
theorem canon_short {R : List E} (h : Canon R) : R.length ≤ 65536 := by
  have := valid_short (plain_valid h)
  simpa using this

/-! ### The reference's rounds -/
/-- R holds the runs of what lies below e. -/
structure Below_ (l R : List E) (e : Int) : Prop where
  canon : Canon R
  e0 : 0 ≤ e
  e1 : e ≤ 65536
  ends : ∀ y ∈ R, y.s + y.n ≤ e
  has : ∀ s, Has R s ↔ Has l s ∧ s < e
/-- The least slot from e on, among the first extents. -/
def Least (l : List E) (e next : Int) (found : Bool) : Prop :=
  (found = false ∧ ∀ x ∈ l, okB x = true → x.s + x.n ≤ e) ∨
  (found = true ∧ (∃ x ∈ l, okB x = true ∧ e < x.s + x.n ∧ next = max x.s e) ∧ ∀ x ∈ l, okB x = true → e < x.s + x.n → next ≤ max x.s e)
/-- The greatest end among the first extents that contain 'next'. -/
def Greatest (l : List E) (next t : Int) : Prop :=
  next ≤ t ∧ (t = next ∨ ∃ x ∈ l, okB x = true ∧ x.s ≤ next ∧ t = x.s + x.n) ∧ ∀ x ∈ l, okB x = true → x.s ≤ next → x.s + x.n ≤ t
def grow (R : List E) (next t : Int) : List E :=
  match R.getLast? with
  | some y => if decide (y.s + y.n = next) then R.dropLast ++ [y.longer (t - next)] else R ++ [⟨0, t - next, next⟩]
  | none => [⟨0, t - next, next⟩]
theorem grow_nil (next t : Int) : grow [] next t = [⟨0, t - next, next⟩] := rfl
theorem grow_yes (l : List E) (y : E) (next t : Int) (h : y.s + y.n = next) : grow (l ++ [y]) next t = l ++ [y.longer (t - next)] := by simp [grow, h]
theorem grow_no (l : List E) (y : E) (next t : Int) (h : ¬ y.s + y.n = next) : grow (l ++ [y]) next t = l ++ [y] ++ [⟨0, t - next, next⟩] := by simp [grow, h]
theorem below_nil (l : List E) : Below_ l [] 0 := by
  refine ⟨⟨by simp, by simp⟩, by omega, by omega, by simp, fun s => ⟨fun h => absurd h (has_nil s), fun ⟨⟨x, hx, h1, h2⟩, h3⟩ => ?_⟩⟩
  have := (okB_iff x).1 h1
  omega
theorem below_end {l R : List E} {e next : Int} (h : Below_ l R e) (hf : Least l e next false) : R = runsL l := by
  refine runs_is l R h.canon fun s => ?_
  rw [h.has]
  refine ⟨fun h => h.1, fun hs => ⟨hs, ?_⟩⟩
  obtain ⟨x, hx, h1, h2⟩ := hs
  rcases hf with ⟨_, hf⟩ | ⟨hf, _⟩
  · have := hf x hx h1; omega
  · cases hf
theorem least_bounds {l R : List E} {e next : Int} (h : Below_ l R e) (hf : Least l e next true) : e ≤ next ∧ next < 65536 := by
  rcases hf with ⟨hf, _⟩ | ⟨_, ⟨x, hx, h1, h2, h3⟩, _⟩
  · cases hf
  · have := (okB_iff x).1 h1
    omega
theorem below_step {l R : List E} {e next t : Int} (h : Below_ l R e) (hf : Least l e next true) (hg : Greatest l next t) : Below_ l (grow R next t) t ∧ next < t ∧ t ≤ 65536 := by
  rcases hf with ⟨hf, _⟩ | ⟨_, ⟨x, hx, x1, x2, x3⟩, hmin⟩
  · cases hf
  · obtain ⟨g1, g2, g3⟩ := hg
    have hx' := (okB_iff x).1 x1
    have hxt := g3 x hx x1 (by omega)
    have hnt : next < t := by omega
    have ht : t ≤ 65536 := by
      rcases g2 with rfl | ⟨z, hz, z1, z2, z3⟩
      · omega
      · have := (okB_iff z).1 z1; omega
    have e0 := h.e0
    have en : e ≤ next := by omega
    have hnew : ∀ s, (next ≤ s ∧ s < t) → Has l s := fun s hs => by
      rcases g2 with rfl | ⟨z, hz, z1, z2, z3⟩
      · omega
      · exact ⟨z, hz, z1, by omega, by omega⟩
    have hgap : ∀ s, e ≤ s → s < next → ¬ Has l s := fun s h1 h2 ⟨z, hz, z1, z2, z3⟩ => by
      have := hmin z hz z1 (by omega)
      omega
    have hok : okB (⟨0, t - next, next⟩ : E) = true := by rw [okB_iff]; simp only; omega
    have key : ∀ s, (Has R s ∨ (next ≤ s ∧ s < t)) ↔ (Has l s ∧ s < t) := fun s => by
      rw [h.has]
      constructor
      · rintro (⟨h1, h2⟩ | h1)
        · exact ⟨h1, by omega⟩
        · exact ⟨hnew s h1, h1.2⟩
      · rintro ⟨h1, h2⟩
        by_cases h3 : s < e
        · exact .inl ⟨h1, h3⟩
        · by_cases h4 : s < next
          · exact absurd h1 (hgap s (by omega) h4)
          · exact .inr ⟨by omega, h2⟩
    refine ⟨?_, hnt, ht⟩
    by_cases hR : R = []
    · subst hR
      rw [grow_nil]
      refine ⟨⟨fun y hy => ?_, by simp⟩, by omega, ht, fun y hy => ?_, fun s => ?_⟩
      · simp at hy; subst hy; exact ⟨rfl, hok⟩
      · simp at hy; subst hy; simp only; omega
      · rw [← key s, has_one]
        simp only [hok, true_and]
        constructor
        · intro hh; exact .inr (by omega)
        · rintro (hh | hh)
          · exact absurd hh (has_nil s)
          · omega
    · obtain ⟨C, y, rfl⟩ := snoc_of R hR
      obtain ⟨c1, c2⟩ := h.canon
      obtain ⟨p1, p2, p3⟩ := List.pairwise_append.1 c2
      have hy := c1 y (by simp)
      have hy' := (okB_iff y).1 hy.2
      have hye := h.ends y (by simp)
      by_cases hm : y.s + y.n = next
      · rw [grow_yes _ _ _ _ hm]
        have hu : okB (y.longer (t - next)) = true := by
          rw [okB_iff]
          have := hy.1
          simp only [E.longer]
          omega
        refine ⟨⟨fun z hz => ?_, ?_⟩, by omega, ht, fun z hz => ?_, fun s => ?_⟩
        · rcases List.mem_append.1 hz with hz | hz
          · exact c1 z (by simp [hz])
          · simp at hz; subst hz; exact ⟨hy.1, hu⟩
        · refine List.pairwise_append.2 ⟨p1, by simp, fun z hz v hv => ?_⟩
          simp at hv; subst hv
          exact p3 z hz y (by simp)
        · rcases List.mem_append.1 hz with hz | hz
          · have := h.ends z (by simp [hz]); omega
          · simp at hz; subst hz; simp only [E.longer]; omega
        · rw [← key s, has_append, has_append, has_one' _ _ hu, has_one' _ _ hy.2]
          show (Has C s ∨ y.s ≤ s ∧ s < y.s + (y.n + (t - next))) ↔ _
          constructor
          · rintro (h1 | h1)
            · exact .inl (.inl h1)
            · by_cases h2 : s < next
              · exact .inl (.inr (by omega))
              · exact .inr (by omega)
          · rintro ((h1 | h1) | h1)
            · exact .inl h1
            · exact .inr (by omega)
            · exact .inr (by omega)
      · rw [grow_no _ _ _ _ hm]
        refine ⟨⟨fun z hz => ?_, ?_⟩, by omega, ht, fun z hz => ?_, fun s => ?_⟩
        · rcases List.mem_append.1 hz with hz | hz
          · exact c1 z hz
          · simp at hz; subst hz; exact ⟨rfl, hok⟩
        · refine List.pairwise_append.2 ⟨c2, by simp, fun z hz v hv => ?_⟩
          simp at hv; subst hv
          have := h.ends z hz
          rcases List.mem_append.1 hz with hz | hz
          · have := p3 z hz y (by simp)
            simp only
            omega
          · simp at hz; subst hz
            simp only
            omega
        · rcases List.mem_append.1 hz with hz | hz
          · have := h.ends z hz; omega
          · simp at hz; subst hz; simp only; omega
        · rw [← key s, has_append, has_one]
          simp only [hok, true_and]
          constructor
          · rintro (h1 | h1)
            · exact .inl h1
            · exact .inr (by omega)
          · rintro (h1 | h1)
            · exact .inl h1
            · exact .inr (by omega)
/-- The rounds of the two inner loops. -/
theorem least_nil (e : Int) : Least [] e 0 false := .inl ⟨rfl, by simp⟩
theorem least_skip {l : List E} {k : Nat} {e next : Int} {found : Bool} (hk : k < l.length) (h : Least (l.take k) e next found) (hs : okB l[k] = false ∨ l[k].s + l[k].n ≤ e) : Least (l.take (k + 1)) e next found := by
  rw [List.take_succ_eq_append_getElem hk]
  generalize l[k] = x at *
  rcases h with ⟨rfl, h⟩ | ⟨rfl, ⟨y, hy, h1⟩, h2⟩
  · refine .inl ⟨rfl, fun z hz hzo => ?_⟩
    rcases List.mem_append.1 hz with hz | hz
    · exact h z hz hzo
    · simp at hz; subst hz
      rcases hs with hs | hs
      · rw [hzo] at hs; cases hs
      · exact hs
  · refine .inr ⟨rfl, ⟨y, List.mem_append_left _ hy, h1⟩, fun z hz hzo hze => ?_⟩
    rcases List.mem_append.1 hz with hz | hz
    · exact h2 z hz hzo hze
    · simp at hz; subst hz
      rcases hs with hs | hs
      · rw [hzo] at hs; cases hs
      · omega
theorem least_take {l : List E} {k : Nat} {e next : Int} {found : Bool} (hk : k < l.length) (h : Least (l.take k) e next found) (h1 : okB l[k] = true) (h2 : e < l[k].s + l[k].n) (h3 : found = false ∨ max l[k].s e < next) : Least (l.take (k + 1)) e (max l[k].s e) true := by
  rw [List.take_succ_eq_append_getElem hk]
  generalize l[k] = x at *
  refine .inr ⟨rfl, ⟨x, by simp, h1, h2, rfl⟩, fun z hz hzo hze => ?_⟩
  rcases List.mem_append.1 hz with hz | hz
  · rcases h with ⟨rfl, h⟩ | ⟨rfl, _, h⟩
    · have := h z hz hzo; omega
    · have := h z hz hzo hze
      rcases h3 with h3 | h3
      · cases h3
      · omega
  · simp at hz; subst hz; exact Int.le_refl _
theorem least_stay {l : List E} {k : Nat} {e next : Int} (hk : k < l.length) (h : Least (l.take k) e next true) (h3 : next ≤ max l[k].s e) : Least (l.take (k + 1)) e next true := by
  rw [List.take_succ_eq_append_getElem hk]
  generalize l[k] = x at *
  rcases h with ⟨h, _⟩ | ⟨_, ⟨y, hy, h1⟩, h2⟩
  · cases h
  · refine .inr ⟨rfl, ⟨y, List.mem_append_left _ hy, h1⟩, fun z hz hzo hze => ?_⟩
    rcases List.mem_append.1 hz with hz | hz
    · exact h2 z hz hzo hze
    · simp at hz; subst hz; exact h3
theorem greatest_nil (next : Int) : Greatest [] next next := ⟨Int.le_refl _, .inl rfl, by simp⟩
theorem greatest_skip {l : List E} {k : Nat} {next t : Int} (hk : k < l.length) (h : Greatest (l.take k) next t) (hs : okB l[k] = false ∨ next < l[k].s ∨ l[k].s + l[k].n ≤ t) : Greatest (l.take (k + 1)) next t := by
  rw [List.take_succ_eq_append_getElem hk]
  generalize l[k] = x at *
  obtain ⟨h1, h2, h3⟩ := h
  refine ⟨h1, h2.imp id fun ⟨y, hy, r⟩ => ⟨y, List.mem_append_left _ hy, r⟩, fun z hz hzo hzn => ?_⟩
  rcases List.mem_append.1 hz with hz | hz
  · exact h3 z hz hzo hzn
  · simp at hz; subst hz
    rcases hs with hs | hs | hs
    · rw [hzo] at hs; cases hs
    · omega
    · exact hs
theorem greatest_take {l : List E} {k : Nat} {next t : Int} (hk : k < l.length) (h : Greatest (l.take k) next t) (h1 : okB l[k] = true) (h2 : l[k].s ≤ next) (h3 : t < l[k].s + l[k].n) : Greatest (l.take (k + 1)) next (l[k].s + l[k].n) := by
  rw [List.take_succ_eq_append_getElem hk]
  generalize l[k] = x at *
  obtain ⟨g1, g2, g3⟩ := h
  refine ⟨by omega, .inr ⟨x, by simp, h1, h2, rfl⟩, fun z hz hzo hzn => ?_⟩
  rcases List.mem_append.1 hz with hz | hz
  · have := g3 z hz hzo hzn; omega
  · simp at hz; subst hz; exact Int.le_refl _
end Go.Proofs.Ytolhajkbamhdgaa
