/-
  Plain: what Scan returns, and the laws of chapter 17.
  Conditions: as each theorem says.
-/
import Derived.Test.YtbiecglooagmmaaScP
namespace Go.Proofs.Ytbiecglooagmmaa
set_option linter.unusedSimpArgs false
set_option linter.unusedVariables false
set_option maxRecDepth 100000
open Go.RowKit

structure Bd where
  used : Int
  live : Int
  age : Int
  wear : Int
deriving DecidableEq
/-- A sector: whether it is nil, and its bytes. -/
structure Sec where
  no : Bool
  l : List UInt8
def ageS (bl : Int) (l : List UInt8) (x : Int) : Int := match cand bl l with
  | some (_, t) => max x t
  | none => x
def upB (bl : Int) (u : Int) (s : Sec) (x : Bd) : Bd := if s.no then x else ⟨u, x.live, ageS bl s.l x.age, x.wear⟩
/-- The bands behind the first k sectors. -/
def bandsK (bl : Int) (size nb : Nat) (S : List Sec) : Nat → List Bd
  | 0 => List.replicate nb ⟨0, 0, 0, 0⟩
  | k + 1 => (bandsK bl size nb S k).modify (k / size) (upB bl ((k % size : Nat) + 1) (S.getD k ⟨true, []⟩))
theorem bandsK_len (bl : Int) (size nb : Nat) (S : List Sec) (k : Nat) : (bandsK bl size nb S k).length = nb := by
  induction k with
  | zero => simp [bandsK]
  | succ k ih => simp [bandsK, ih]
def incB (x : Bd) : Bd := ⟨x.used, x.live + 1, x.age, x.wear⟩
/-- The bands with the live entries counted. -/
def liveP (size : Nat) (B : List Bd) : List Cd → List Bd
  | [] => B
  | c :: r => liveP size (B.modify (c.i / size) incB) r
theorem liveP_snoc (size : Nat) (B : List Bd) (cs : List Cd) (c : Cd) : liveP size B (cs ++ [c]) = (liveP size B cs).modify (c.i / size) incB := by
  induction cs generalizing B with
  | nil => rfl
  | cons x r ih => exact ih _
theorem liveP_len (size : Nat) (B : List Bd) (cs : List Cd) : (liveP size B cs).length = B.length := by
  induction cs generalizing B with
  | nil => rfl
  | cons x r ih => rw [liveP, ih, List.length_modify]
def cntB (size : Nat) (cs : List Cd) (j : Nat) : Nat := cs.countP fun c => c.i / size == j
theorem liveP_at (size : Nat) (B : List Bd) (cs : List Cd) (j : Nat) : (liveP size B cs)[j]? = (B[j]?).map fun x => ⟨x.used, x.live + cntB size cs j, x.age, x.wear⟩ := by
  induction cs generalizing B with
  | nil =>
    unfold liveP cntB
    cases B[j]? <;> simp
  | cons c r ih =>
    rw [liveP, ih, List.getElem?_modify]
    unfold cntB
    rw [List.countP_cons]
    by_cases h : c.i / size = j
    · simp only [h, if_true, beq_self_eq_true]
      cases B[j]? with
      | none => rfl
      | some x =>
        simp [incB]
        omega
    · simp only [h, if_false, beq_iff_eq]
      cases B[j]? with
      | none => rfl
      | some x => simp
theorem liveP_perm {size : Nat} {B : List Bd} {cs ds : List Cd} (h : cs.Perm ds) : liveP size B cs = liveP size B ds := by
  apply List.ext_getElem?
  intro j
  rw [liveP_at, liveP_at]
  unfold cntB
  rw [h.countP_eq]
/-- The blocks that are asked. -/
def capN (bl : Int) : Nat := (min bl 65536).toNat
def foundP (bl : Int) (L : List (List UInt8)) (n : Nat) (m : Nat) : List Cd := (List.range m).filterMap fun b => best bl L (b : Nat) n
theorem foundP_succ (bl : Int) (L : List (List UInt8)) (n m : Nat) : foundP bl L n (m + 1) = foundP bl L n m ++ (best bl L (m : Nat) n).toList := by
  unfold foundP
  rw [List.range_succ, List.filterMap_append]
  cases h : best bl L (m : Nat) n <;> simp [h]
theorem foundP_mem {bl : Int} {L : List (List UInt8)} {n m : Nat} {c : Cd} : c ∈ foundP bl L n m ↔ ∃ b : Nat, b < m ∧ best bl L b n = some c := by
  unfold foundP
  simp [List.mem_filterMap]
def Up (l : List Cd) : Prop := l.Pairwise fun a b => a.e.block < b.e.block
theorem foundP_up (bl : Int) (L : List (List UInt8)) (n m : Nat) : Up (foundP bl L n m) := by
  induction m with
  | zero => exact List.Pairwise.nil
  | succ m ih =>
    rw [foundP_succ]
    refine List.pairwise_append.2 ⟨ih, ?_, ?_⟩
    · cases best bl L (m : Nat) n <;> simp
    · intro a ha b hb
      obtain ⟨k, hk, h1⟩ := foundP_mem.1 ha
      cases h2 : best bl L (m : Nat) n with
      | none => rw [h2] at hb; simp at hb
      | some c =>
        rw [h2] at hb
        simp at hb
        subst hb
        have := (best_some h1).2.1
        have := (best_some h2).2.1
        omega
theorem Up.nodup {l : List Cd} (h : Up l) : l.Nodup := List.Pairwise.imp (fun {a b} hab e => by subst e; omega) h
/-- Two rising lists with the same members. -/
theorem Up.eq {l m : List Cd} (hl : Up l) (hm : Up m) (h : ∀ c, c ∈ l ↔ c ∈ m) : l = m := by
  induction l generalizing m with
  | nil =>
    cases m with
    | nil => rfl
    | cons x r => exact absurd ((h x).2 (by simp)) (by simp)
  | cons a l ih =>
    cases m with
    | nil => exact absurd ((h a).1 (by simp)) (by simp)
    | cons b m =>
      have hl' := List.pairwise_cons.1 hl
      have hm' := List.pairwise_cons.1 hm
      have hab : a = b := by
        rcases List.mem_cons.1 ((h a).1 (by simp)) with e | e
        · exact e
        rcases List.mem_cons.1 ((h b).2 (by simp)) with f | f
        · exact f.symm
        have h1 := hm'.1 a e
        have h2 := hl'.1 b f
        omega
      subst hab
      congr 1
      refine ih hl'.2 hm'.2 fun c => ⟨fun hc => ?_, fun hc => ?_⟩
      · rcases List.mem_cons.1 ((h c).1 (by simp [hc])) with e | e
        · subst e
          have := hl'.1 c hc
          omega
        · exact e
      · rcases List.mem_cons.1 ((h c).2 (by simp [hc])) with e | e
        · subst e
          have := hm'.1 c hc
          omega
        · exact e
theorem cand_block {bl : Int} {l : List UInt8} {e : Ent} {t : Int} (h : cand bl l = some (e, t)) : 0 ≤ e.block ∧ e.block < capN bl ∧ 1 ≤ e.ver ∧ e.ver < 18446744073709551616 := by
  obtain ⟨_, h2, h3, _, h5, _⟩ := cand_some h
  unfold Ent.ok at h3
  simp only [Bool.and_eq_true, decide_eq_true_eq] at h3
  obtain ⟨⟨a1, a2, a3⟩, _⟩ := h3
  unfold capN
  refine ⟨a1, by omega, a3, ?_⟩
  rw [h2]
  have := getL_lt ((l.drop 5).take 8)
  have hl : ((l.drop 5).take 8).length ≤ 8 := by rw [List.length_take]; omega
  have hp : (256 : Nat) ^ ((l.drop 5).take 8).length ≤ 256 ^ 8 := Nat.pow_le_pow_right (by omega) hl
  unfold decE
  simp only
  omega
/-- Each newest entry of a block is found. -/
theorem found_best {bl : Int} {L : List (List UInt8)} {n : Nat} {b : Int} {c : Cd} (h : best bl L b n = some c) : c ∈ foundP bl L n (capN bl) := by
  obtain ⟨h1, h2, h3⟩ := best_some h
  obtain ⟨a1, a2, _⟩ := cand_block h3
  obtain ⟨k, hk⟩ := Int.eq_ofNat_of_zero_le a1
  refine foundP_mem.2 ⟨k, by omega, ?_⟩
  rw [← hk, h2]
  exact h
/-- Replacing a sector that holds no newest entry. -/
theorem best_older {bl : Int} {L : List (List UInt8)} {n p : Nat} {x : List UInt8} (hx : cand bl x = none) (hp : p < L.length) (h : ∀ c ∈ foundP bl L n (capN bl), c.i ≠ p) (b : Int) : best bl (L.set p x) b n = best bl L b n := by
  have hs : ∀ j e t, cand bl ((L.set p x).getD j []) = some (e, t) → cand bl (L.getD j []) = some (e, t) := fun j e t hj => by
    by_cases e : p = j
    · subst e
      rw [List.getD_eq_getElem?_getD, List.getElem?_set_self hp] at hj
      simp only [Option.getD_some, hx] at hj
      cases hj
    · rw [List.getD_eq_getElem?_getD, List.getElem?_set_ne e] at hj
      rw [List.getD_eq_getElem?_getD]
      exact hj
  cases hq : best bl L b n with
  | none =>
    refine best_none fun j e t hj hc hb => ?_
    obtain ⟨d, h5, _⟩ := best_all hj (hs j e t hc) hb
    rw [hq] at h5
    cases h5
  | some c =>
    have hne := h c (found_best hq)
    refine best_congr hq ?_ fun j e t _ hc _ => hs j e t hc
    rw [List.getD_eq_getElem?_getD, List.getElem?_set_ne (Ne.symm hne), List.getD_eq_getElem?_getD]
theorem found_older {bl : Int} {L : List (List UInt8)} {n p : Nat} {x : List UInt8} (hx : cand bl x = none) (hp : p < L.length) (h : ∀ c ∈ foundP bl L n (capN bl), c.i ≠ p) : foundP bl (L.set p x) n (capN bl) = foundP bl L n (capN bl) := by
  unfold foundP
  congr 1
  funext b
  exact best_older hx hp h _
def noAge (x : Bd) : Bd := ⟨x.used, x.live, 0, x.wear⟩
theorem map_modify {B B' : List Bd} {f : Bd → Bd} (j : Nat) {g h : Bd → Bd} (hB : B.map f = B'.map f) (hg : ∀ x y, f x = f y → f (g x) = f (h y)) : (B.modify j g).map f = (B'.modify j h).map f := by
  apply List.ext_getElem?
  intro i
  have hi := congrArg (fun l => l[i]?) hB
  simp only [List.getElem?_map] at hi ⊢
  rw [List.getElem?_modify, List.getElem?_modify]
  cases h1 : B[i]? with
  | none =>
    rw [h1] at hi
    cases h2 : B'[i]? with
    | none => rfl
    | some y => rw [h2] at hi; cases hi
  | some x =>
    rw [h1] at hi
    cases h2 : B'[i]? with
    | none => rw [h2] at hi; cases hi
    | some y =>
      rw [h2] at hi
      simp only [Option.map_some, Option.some.injEq] at hi ⊢
      by_cases e : j = i
      · simp only [e, if_true]
        simpa using hg x y hi
      · simp only [e, if_false]
        simpa using hi
theorem noAge_upB {bl : Int} {u : Int} {s s' : Sec} (hs : s.no = s'.no) (x y : Bd) (h : noAge x = noAge y) : noAge (upB bl u s x) = noAge (upB bl u s' y) := by
  unfold upB
  rw [hs]
  split
  · exact h
  · unfold noAge at *
    simp only [Bd.mk.injEq] at h ⊢
    exact ⟨trivial, h.2.1, trivial, h.2.2.2⟩
theorem bands_older {bl : Int} {size nb : Nat} {S S' : List Sec} (h : ∀ j, (S.getD j ⟨true, []⟩).no = (S'.getD j ⟨true, []⟩).no) (k : Nat) : (bandsK bl size nb S k).map noAge = (bandsK bl size nb S' k).map noAge := by
  induction k with
  | zero => rfl
  | succ k ih => exact map_modify _ ih fun x y hxy => noAge_upB (h k) x y hxy
theorem live_older {size : Nat} {B B' : List Bd} (cs : List Cd) (h : B.map noAge = B'.map noAge) : (liveP size B cs).map noAge = (liveP size B' cs).map noAge := by
  induction cs generalizing B B' with
  | nil => exact h
  | cons c r ih =>
    refine ih (map_modify _ h fun x y hxy => ?_)
    unfold noAge incB at *
    simp only [Bd.mk.injEq] at hxy ⊢
    exact ⟨hxy.1, by rw [hxy.2.1], trivial, hxy.2.2.2⟩
/-- A sector that holds no candidate of more than the version: the new one wins. -/
theorem best_wins {bl : Int} {L : List (List UInt8)} {n p : Nat} {b : Int} {x y : List UInt8} {e : Ent} {t : Int} (hp : p < L.length) (hpn : p < n) (hy : cand bl y = some (e, t)) (hb : e.block = b) (hx : cand bl x = none) (hv : ∀ c, best bl (L.set p x) b n = some c → c.e.ver < e.ver) : best bl (L.set p y) b n = some ⟨e, t, p⟩ := by
  have hself : (L.set p y).getD p [] = y := by rw [List.getD_eq_getElem?_getD, List.getElem?_set_self hp]; rfl
  refine best_eq hpn (by rw [hself]; exact hy) hb fun j e' t' hj hc hb' => ?_
  by_cases hjp : p = j
  · subst hjp
    rw [hself, hy] at hc
    injection hc with hc
    injection hc with h1 h2
    subst h1 h2
    exact .inr ⟨rfl, .inr ⟨rfl, Nat.le_refl _⟩⟩
  · have hcx : cand bl ((L.set p x).getD j []) = some (e', t') := by
      rw [List.getD_eq_getElem?_getD, List.getElem?_set_ne hjp] at hc ⊢
      exact hc
    obtain ⟨d, h5, h6⟩ := best_all hj hcx hb'
    have h7 := hv d h5
    unfold Beats at *
    simp only
    omega
theorem sumLive (B : List Bd) (cs : List Cd) (size : Nat) (hB : ∀ x ∈ B, x.live = 0) (hc : ∀ c ∈ cs, c.i / size < B.length) : ((liveP size B cs).map (·.live)).sum = cs.length := by
  have key : ∀ (cs : List Cd) (B : List Bd), (∀ c ∈ cs, c.i / size < B.length) → ((liveP size B cs).map (·.live)).sum = (B.map (·.live)).sum + cs.length := by
    intro cs
    induction cs with
    | nil => intro B _; simp [liveP]
    | cons c r ih =>
      intro B h
      have hlt := h c (by simp)
      rw [liveP, ih _ fun d hd => by rw [List.length_modify]; exact h d (by simp [hd])]
      have : ∀ (B : List Bd) (j : Nat), j < B.length → ((B.modify j incB).map (·.live)).sum = (B.map (·.live)).sum + 1 := by
        intro B
        induction B with
        | nil => intro j h; simp at h
        | cons b B ihB =>
          intro j hj
          cases j with
          | zero => simp [incB]; omega
          | succ j =>
            simp only [List.modify_succ_cons, List.map_cons, List.sum_cons]
            rw [ihB j (by simpa using hj)]
            omega
      rw [this _ _ hlt, List.length_cons]
      push_cast
      omega
  rw [key cs B hc]
  have : ∀ B : List Bd, (∀ x ∈ B, x.live = 0) → (B.map (·.live)).sum = 0 := by
    intro B
    induction B with
    | nil => intro _; rfl
    | cons b r ih => intro h; rw [List.map_cons, List.sum_cons, h b (by simp), ih fun x hx => h x (by simp [hx])]; rfl
  rw [this B hB]
  omega
theorem pigeon (u : Nat) (l : List Nat) (hn : l.Nodup) (h : ∀ x ∈ l, x < u) : l.length ≤ u := by
  induction u generalizing l with
  | zero =>
    cases l with
    | nil => simp
    | cons x r => exact absurd (h x (by simp)) (by omega)
  | succ u ih =>
    by_cases hu : u ∈ l
    · have h1 := ih (l.erase u) (hn.erase u) fun x hx => by
        have h2 := h x (List.mem_of_mem_erase hx)
        have h3 : x ≠ u := fun e => by
          subst e
          exact hn.not_mem_erase hx
        omega
      rw [List.length_erase_of_mem hu] at h1
      omega
    · have := ih l hn fun x hx => by
        have h2 := h x hx
        have h3 : x ≠ u := fun e => hu (e ▸ hx)
        omega
      omega
theorem sfound_at {bl : Int} {L : List (List UInt8)} {n m : Nat} {c : Cd} (h : c ∈ foundP bl L n m) : c.i < n ∧ cand bl (L.getD c.i []) = some (c.e, c.t) := by
  obtain ⟨b, _, h1⟩ := foundP_mem.1 h
  obtain ⟨h2, _, h3⟩ := best_some h1
  exact ⟨h2, h3⟩
theorem found_nodup (bl : Int) (L : List (List UInt8)) (n m : Nat) : ((foundP bl L n m).map (·.i)).Nodup := by
  refine List.pairwise_map.2 ((List.Pairwise.imp_of_mem ?_) (foundP_up bl L n m))
  intro a b ha hb hab e
  have h1 := (sfound_at ha).2
  have h2 := (sfound_at hb).2
  rw [e, h2] at h1
  injection h1 with h1
  injection h1 with h1
  rw [h1] at hab
  omega
theorem bands_used {bl : Int} {size nb : Nat} {S : List Sec} (hs : 0 < size) (k : Nat) : ∀ j x, (bandsK bl size nb S k)[j]? = some x → x.live = 0 ∧ 0 ≤ x.used ∧ x.used ≤ (size : Int) ∧ ∀ i, i < k → i / size = j → (S.getD i ⟨true, []⟩).no = false → ((i % size : Nat) : Int) + 1 ≤ x.used := by
  induction k with
  | zero =>
    intro j x hx
    simp only [bandsK, List.getElem?_replicate] at hx
    split at hx
    · injection hx with hx
      subst hx
      exact ⟨rfl, Int.le_refl _, by show (0 : Int) ≤ _; omega, fun i hi => by omega⟩
    · cases hx
  | succ k ih =>
    intro j x hx
    rw [bandsK, List.getElem?_modify] at hx
    cases hq : (bandsK bl size nb S k)[j]? with
    | none => rw [hq] at hx; cases hx
    | some y =>
      rw [hq] at hx
      obtain ⟨y1, y2, y3, y4⟩ := ih j y hq
      have hmod := Nat.mod_lt k hs
      simp only [Option.map_eq_map, Option.map_some, Option.some.injEq] at hx
      by_cases hkj : k / size = j
      · simp only [hkj, if_true] at hx
        cases hno : (S.getD k ⟨true, []⟩).no with
        | true =>
          simp only [upB, hno, if_true] at hx
          subst hx
          refine ⟨y1, y2, y3, fun i hi hij hn => ?_⟩
          have : i ≠ k := fun e => by rw [e, hno] at hn; cases hn
          exact y4 i (by omega) hij hn
        | false =>
          simp only [upB, hno] at hx
          subst hx
          refine ⟨y1, by simp; omega, by simp; omega, fun i hi hij hn => ?_⟩
          simp only [Bool.false_eq_true, if_false]
          have h1 := Nat.div_add_mod i size
          have h2 := Nat.div_add_mod k size
          rw [hij, ← hkj] at h1
          omega
      · simp only [hkj, if_false, id] at hx
        subst hx
        refine ⟨y1, y2, y3, fun i hi hij hn => ?_⟩
        have : i ≠ k := fun e => by subst e; exact hkj hij
        exact y4 i (by omega) hij hn
/-- P17.2: as many live ones in a band as are used at most. -/
theorem live_used {bl : Int} {size nb : Nat} {S : List Sec} {n m : Nat} (hs : 0 < size) (hS : ∀ s ∈ S, s.no = true → s.l = []) {j : Nat} {x : Bd} (hx : (liveP size (bandsK bl size nb S n) (foundP bl (S.map (·.l)) n m))[j]? = some x) : 0 ≤ x.live ∧ x.live ≤ x.used ∧ x.used ≤ (size : Int) := by
  rw [liveP_at] at hx
  cases hq : (bandsK bl size nb S n)[j]? with
  | none => rw [hq] at hx; cases hx
  | some y =>
    rw [hq] at hx
    simp only [Option.map_some, Option.some.injEq] at hx
    subst hx
    obtain ⟨y1, y2, y3, y4⟩ := bands_used hs n j y hq
    obtain ⟨u, hu⟩ := Int.eq_ofNat_of_zero_le y2
    simp only
    rw [y1, hu]
    refine ⟨by omega, ?_, by omega⟩
    have key : cntB size (foundP bl (S.map (·.l)) n m) j ≤ u := by
      unfold cntB
      rw [List.countP_eq_length_filter, ← List.length_map (f := fun c : Cd => c.i - size * j)]
      refine pigeon u _ ?_ ?_
      · refine List.pairwise_map.2 (List.Pairwise.imp_of_mem (R := fun a b : Cd => a.i ≠ b.i) ?_ ((List.pairwise_map.1 (found_nodup bl (S.map (·.l)) n m)).filter _))
        intro a b ha hb hne e
        have h1 := (List.mem_filter.1 ha).2
        have h2 := (List.mem_filter.1 hb).2
        simp only [beq_iff_eq] at h1 h2
        have h3 := Nat.div_add_mod a.i size
        have h4 := Nat.div_add_mod b.i size
        rw [h1] at h3
        rw [h2] at h4
        omega
      · intro v hv
        obtain ⟨c, hc, rfl⟩ := List.mem_map.1 hv
        have h1 := (List.mem_filter.1 hc).2
        simp only [beq_iff_eq] at h1
        obtain ⟨h2, h3⟩ := sfound_at (List.mem_filter.1 hc |>.1)
        have hl := (cand_some h3).1
        have hno : (S.getD c.i ⟨true, []⟩).no = false := by
          rw [List.getD_eq_getElem?_getD, List.getElem?_map] at hl
          cases hg : S[c.i]? with
          | none => rw [hg] at hl; simp at hl
          | some s =>
            rw [hg] at hl
            rw [List.getD_eq_getElem?_getD, hg]
            simp only [Option.map_some, Option.getD_some] at hl ⊢
            cases hb : s.no with
            | false => rfl
            | true =>
              rw [hS s (List.mem_of_getElem? hg) hb] at hl
              simp at hl
        have h4 := y4 c.i h2 h1 hno
        have h5 := Nat.div_add_mod c.i size
        rw [h1] at h5
        omega
    omega
end Go.Proofs.Ytbiecglooagmmaa
