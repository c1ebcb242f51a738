/-
  The statements' helpers of chapter 34: run, few, same; scripts opened.
  Conditions: as each theorem says.
-/
import Derived.Test.YtolhajkbamhdgaaRcH
import Derived.Test.YtolhajkbamhdgaaRcG
import Derived.Test.YtolhajkbamhdgaaTgW
namespace Go.Proofs.Ytolhajkbamhdgaa
set_option linter.unusedSimpArgs false
set_option linter.unusedVariables false
open Go.ChangeShapes Go.WideShapes Go.ChangeAt Go.RowKit Go.Deep

/-! ### Scripts -/
structure StepAt (w : World) (b o k : Nat) (x : Bool × List E) : Prop where
  d : w.cell? ⟨b, o + k * 2, none⟩ = some (.bool x.1)
  l : ∃ al cl, w.cell? ⟨b, o + k * 2 + 1, none⟩ = some (.slice al x.2.length cl) ∧ x.2.length ≤ 9223372036854775807 ∧ (x.2.length ≤ 46912496118443 → Rd w al x.2) ∧ wfL x.2
/-- The slice 'a, length' reads as a script. -/
def RdS (w : World) (a : Option Addr) (S : List (Bool × List E)) : Prop :=
  S.length ≤ 9223372036854775807 ∧ (S = [] ∨ ∃ b o, a = some ⟨b, o, none⟩ ∧ ∀ k x, S[k]? = some x → StepAt w b o k x)
theorem StepAt.keep {w w' : World} (h : Below w.heap.size w w') {b o k : Nat} {x : Bool × List E} (ha : StepAt w b o k x) : StepAt w' b o k x :=
  ⟨h.keep ha.d, by obtain ⟨al, cl, h1, h2, h3, h4⟩ := ha.l; exact ⟨al, cl, h.keep h1, h2, fun hb => (h3 hb).keep h, h4⟩⟩
theorem RdS.keep {w w' : World} (h : Below w.heap.size w w') {a : Option Addr} {S : List (Bool × List E)} (hr : RdS w a S) : RdS w' a S :=
  ⟨hr.1, hr.2.imp id fun ⟨b, o, ha, hat⟩ => ⟨b, o, ha, fun k x hk => (hat k x hk).keep h⟩⟩
theorem RdS.at {w : World} {a : Option Addr} {S : List (Bool × List E)} (hr : RdS w a S) (h : 0 < S.length) : ∃ b o, a = some ⟨b, o, none⟩ ∧ ∀ k x, S[k]? = some x → StepAt w b o k x :=
  hr.2.resolve_left (by intro e; rw [e] at h; simp at h)
theorem list_of' {α : Type} {P : Nat → α → Prop} (n : Nat) (h : ∀ i, i < n → ∃ x, P i x) : ∃ l : List α, l.length = n ∧ ∀ i x, l[i]? = some x → P i x := by
  induction n with
  | zero => exact ⟨[], rfl, fun i x hx => by simp at hx⟩
  | succ n ih =>
    obtain ⟨l, hl, hp⟩ := ih fun i hi => h i (by omega)
    obtain ⟨y, hy⟩ := h n (by omega)
    refine ⟨l ++ [y], by simp [hl], fun i x hx => ?_⟩
    by_cases hi : i < n
    · rw [List.getElem?_append_left (by omega)] at hx
      exact hp i x hx
    · have hlt := (List.getElem?_eq_some_iff.1 hx).1
      simp [hl] at hlt
      obtain rfl : i = n := by omega
      rw [List.getElem?_append_right (by omega), hl] at hx
      simp at hx
      rw [← hx]
      exact hy
section
variable {H : Type} {enc : TypeId × Value → H} {w : World}
set_option maxRecDepth 100000 in
theorem open_steps {a : Option Addr} {len cap fuel : Nat} {x : DataW H × List MemPlace} (h : DataW.trod enc Try.prog w 0 (fun _ => true) true fuel 22 [.slice a len cap] = some x) :
    ∃ S : List (Bool × List E), S.length = len ∧ (len ≤ 9223372036854775807 ∧ len ≤ cap ∧ cap ≤ 9223372036854775807) ∧ RdS w a S := by
  rcases open_slice_fields Try.underlying22 Try.underlying85 (by kernel_rfl) (by kernel_rfl) h with ⟨hcs, _⟩ | ⟨ad, len', cap', m, D, Pl, hcs, hb, hl, hm, hmm, hx, hi⟩
  · simp at hcs
    obtain ⟨rfl, rfl, rfl⟩ := hcs
    exact ⟨[], rfl, ⟨by omega, by omega, by omega⟩, ⟨by simp, .inl rfl⟩⟩
  · simp at hcs
    obtain ⟨rfl, rfl, rfl⟩ := hcs
    simp only [if_true] at hmm
    subst hmm
    obtain ⟨S, hlen, hp⟩ := list_of' (P := fun i (x : Bool × List E) => w.cell? (ad.add (i * 2 + 0)) = some (.bool x.1) ∧ ∃ al cl, w.cell? (ad.add (i * 2 + 1)) = some (.slice al x.2.length cl) ∧ x.2.length ≤ 9223372036854775807 ∧ (x.2.length ≤ 46912496118443 → Rd w al x.2) ∧ wfL x.2) len (fun i hlt => by
      obtain ⟨ys, n, _, _, hys, hf⟩ := hi i (by omega)
      obtain ⟨v0, y0, k0, _, t0⟩ := hf 0 _ rfl
      obtain ⟨v1, y1, k1, _, t1⟩ := hf 1 _ rfl
      obtain ⟨n0, e0, _⟩ := DataW.trod_bool Try.underlying4 t0
      simp at e0
      subst e0
      obtain ⟨al, ln, cl, rfl⟩ : ∃ al ln cl, v1 = .slice al ln cl := by
        rcases open_slice Try.underlying32 t1 with ⟨hcs, _⟩ | ⟨a1, l1, c1, _, _, _, _, hcs, _⟩
        · simp at hcs; exact ⟨_, _, _, hcs⟩
        · simp at hcs; exact ⟨_, _, _, hcs⟩
      obtain ⟨l, rfl, hl1, hl2, hl3⟩ := open_extents t1
      exact ⟨(n0, l), k0, al, cl, k1, hl1.1, hl2, hl3⟩)
    refine ⟨S, hlen, by unfold maxLen at hm; exact ⟨by omega, hl, by omega⟩, ⟨by unfold maxLen at hm; omega, ?_⟩⟩
    by_cases h0 : S = []
    · exact .inl h0
    · refine .inr ?_
      obtain ⟨b, off, spot⟩ := ad
      have h00 : 0 < S.length := List.length_pos_iff.2 h0
      obtain ⟨z0, _⟩ := hp 0 _ (List.getElem?_eq_getElem h00)
      have hspot : spot = none := by simpa [Addr.add] using World.cell?_spot z0
      subst hspot
      refine ⟨b, off, rfl, fun k x hk => ?_⟩
      obtain ⟨c0, al, cl, c1, c2⟩ := hp k x hk
      have hadd : ∀ j, (⟨b, off, none⟩ : Addr).add j = ⟨b, off + j, none⟩ := fun j => by unfold Addr.add; split <;> simp_all
      rw [hadd] at c0 c1
      exact ⟨by simpa using c0, al, cl, by rw [Nat.add_assoc]; exact c1, c2⟩
end

def fewB (S : List (Bool × List E)) : Bool := S.all fun x => decide (x.2.length ≤ 8)
theorem fewB_take (S : List (Bool × List E)) (k : Nat) (h : k < S.length) : fewB (S.take (k + 1)) = (fewB (S.take k) && decide (S[k].2.length ≤ 8)) := by
  rw [List.take_succ_eq_append_getElem h]; simp only [fewB, List.all_append, List.all_cons, List.all_nil, Bool.and_true]
theorem fewB_bad (S : List (Bool × List E)) (k : Nat) (h : k < S.length) (hx : 8 < S[k].2.length) : fewB S = false := by
  cases hp : fewB S
  · rfl
  · have := of_decide_eq_true (List.all_eq_true.1 hp _ (List.getElem_mem h))
    omega
theorem fewB_get {S : List (Bool × List E)} (h : fewB S = true) {k : Nat} (hk : k < S.length) : S[k].2.length ≤ 8 := of_decide_eq_true (List.all_eq_true.1 h _ (List.getElem_mem hk))
def FewPost (S : List (Bool × List E)) (w : World) (e : Ending) (w' : World) : Prop := e = .returned (.bool (fewB S && decide (S.length ≤ 20))) ∧ Below w.heap.size w w'
set_option maxRecDepth 100000 in
set_option maxHeartbeats 1000000 in
theorem few_any (S : List (Bool × List E)) (a : Option Addr) (c : Nat) (w : World) (hr : RdS w a S) :
    Calls Try.prog 17 #[.slice a S.length c] w (FewPost S w) := by
  have hlen := hr.1
  go_enter Try.func17, Try.ntmps17
  go_wp2_with fail
  go_loopw [3] (fun i wr => ∃ k : Nat, k ≤ S.length ∧ i = .int .i64 k ∧ fewB (S.take k) = true ∧ Below w.heap.size w wr) (fun i _ => S.length - (intOf i).toNat)
  case atStart => exact ⟨0, Nat.zero_le _, rfl, rfl, Below.refl _ _⟩
  case round =>
    obtain ⟨k, hk, rfl, hp, hB⟩ := hrel
    by_cases hlt : k < S.length
    · obtain ⟨b, o, rfl, hat⟩ := (hr.keep hB).at (by omega)
      obtain ⟨h1, al, cl, h2, h3, _⟩ := hat k _ (List.getElem?_eq_getElem hlt)
      have HV := Lib.hid (fewB_take S k hlt)
      have HBad := Lib.hid (fewB_bad S k hlt)
      have HP := Lib.hid hp
      have hk0 : (0 : Int) ≤ k := by omega
      have hk1 : (k : Int) < S.length := by omega
      generalize S[k] = x at *
      obtain ⟨xd, xl⟩ := x
      simp only at h1 h2 h3 HV HBad
      clear hat hr hp h1
      by_cases d1 : 8 < xl.length
      · have HF := Lib.hid (HBad.out d1)
        go_wp2
        go_ret
        exact ⟨ret_bool (by rw [HF.out]; simp), hB⟩
      · have HF : Hid (decide (xl.length ≤ 8) = true) := Lib.hid (by simp; omega)
        go_wp2
        go_roundw
        case rel => exact ⟨k + 1, by omega, by go_num, by rw [HV.out, HP.out, HF.out]; rfl, hB⟩
        case measure => simp [intOf]; omega
    · have HP : Hid (fewB S = true) := by
        rw [List.take_of_length_le (by omega)] at hp
        exact Lib.hid hp
      clear hp
      by_cases h20 : S.length ≤ 20
      all_goals
        go_wp2
        go_ret
        exact ⟨ret_bool (by rw [HP.out]; simp [h20]; try omega), hB⟩

set_option maxRecDepth 100000 in
set_option maxHeartbeats 2000000 in
theorem same_counts (C : List Int) (a a2 : Option Addr) (c c2 : Nat) (w : World) (hrC : RdI w a C) (hrD : RdI w a2 C) (hR : inR 0 1000000000 C) :
    Calls Try.prog 22 #[.agg #[.slice a C.length c], .slice a2 C.length c2] w fun e w' => e = .returned (.bool true) ∧ Below w.heap.size w w' := by
  have hC := hrC.1
  have HRC := Lib.hid (hrC.keep ((Below.refl w.heap.size w).onAlloc (.cells #[.slice a C.length c] 27)))
  have HRD := Lib.hid (hrD.keep ((Below.refl w.heap.size w).onAlloc (.cells #[.slice a C.length c] 27)))
  have HB := Lib.hid ((Below.refl w.heap.size w).onAlloc (.cells #[.slice a C.length c] 27))
  have hc : (w.alloc (.cells #[.slice a C.length c] 27)).cell? ⟨w.heap.size, 0, none⟩ = some (.slice a C.length c) := by simp
  clear hrC hrD
  go_enter Try.func22, Try.ntmps22
  go_wp2_with fail
  refine (slots_any a C.length c _ hC).mono ?_
  rintro e w' ⟨rfl, hb⟩
  have HRC := Lib.hid (HRC.out.keep hb)
  have HRD := Lib.hid (HRD.out.keep hb)
  replace hc := hb.keep hc
  have HB := Lib.hid (HB.out.on hb)
  clear hb
  go_wp2_with fail
  refine (used_any C a c _ HRC.out hR).mono ?_
  rintro e w' ⟨rfl, hb⟩
  have HRC := Lib.hid (HRC.out.keep hb)
  have HRD := Lib.hid (HRD.out.keep hb)
  replace hc := hb.keep hc
  have HB := Lib.hid (HB.out.on hb)
  clear hb
  go_wp2_with fail
  refine (rused_any C a2 c2 _ HRD.out hR).mono ?_
  rintro e w' ⟨rfl, hb⟩
  have HRC := Lib.hid (HRC.out.keep hb)
  have HRD := Lib.hid (HRD.out.keep hb)
  replace hc := hb.keep hc
  have HB := Lib.hid (HB.out.on hb)
  clear hb
  go_wp2_with fail
  refine (total_any C a c _ HRC.out hR).mono ?_
  rintro e w' ⟨rfl, hb⟩
  have HRC := Lib.hid (HRC.out.keep hb)
  have HRD := Lib.hid (HRD.out.keep hb)
  replace hc := hb.keep hc
  have HB := Lib.hid (HB.out.on hb)
  clear hb
  go_wp2_with fail
  refine (rtotal_any C a2 c2 _ HRD.out hR).mono ?_
  rintro e w' ⟨rfl, hb⟩
  have HRC := Lib.hid (HRC.out.keep hb)
  have HRD := Lib.hid (HRD.out.keep hb)
  replace hc := hb.keep hc
  have HB := Lib.hid (HB.out.on hb)
  clear hb
  go_wp2_with fail
  refine (zero_any C a c _ HRC.out).mono ?_
  rintro e w' ⟨z1, rfl, ho1, hb⟩
  have hzs := canon_short (runs_facts (picks (zeroB C) C.length)).1
  rw [show runsL (picks (zeroB C) C.length) = zeroL C from rfl] at hzs
  obtain ⟨za, zc, rfl, hz1⟩ := ho1.rd (by omega)
  have HRC := Lib.hid (HRC.out.keep hb)
  have HRD := Lib.hid (HRD.out.keep hb)
  replace hc := hb.keep hc
  have HB := Lib.hid (HB.out.on hb)
  clear hb ho1
  go_wp2_with fail
  refine (rzero_any C a2 c2 _ HRD.out).mono ?_
  rintro e w' ⟨z2, rfl, ho2, hb⟩
  obtain ⟨zb, zd, rfl, hz2⟩ := ho2.rd (by omega)
  have HRC := Lib.hid (HRC.out.keep hb)
  have HRD := Lib.hid (HRD.out.keep hb)
  replace hc := hb.keep hc
  replace hz1 := hz1.keep hb
  have HB := Lib.hid (HB.out.on hb)
  clear hb ho2
  go_wp2_with fail
  refine (same_is (zeroL C) (zeroL C) _ _ _ _ true _ (sameB_refl _) hz1 hz2).mono ?_
  rintro e w9 ⟨rfl, hb⟩
  have HRC := Lib.hid (HRC.out.keep hb)
  have HRD := Lib.hid (HRD.out.keep hb)
  replace hc := hb.keep hc
  have HB := Lib.hid (HB.out.on hb)
  clear hb hz1 hz2 hzs
  go_wp2_with fail
  go_loopw [5] (fun t wr => ∃ k : Nat, k ≤ C.length + 2 ∧ t = .int .i64 ((k : Int) - 1) ∧ Below w9.heap.size w9 wr) (fun t _ => C.length + 2 - (match t with | .int _ n => n + 1 | _ => 0).toNat)
  case atStart => exact ⟨0, by omega, rfl, Below.refl _ _⟩
  case round =>
    obtain ⟨k, hk, rfl, hB⟩ := hrel
    have hc4 := hB.keep hc
    have HC4 := Lib.hid (HRC.out.keep hB)
    have HD4 := Lib.hid (HRD.out.keep hB)
    by_cases hlt : k < C.length + 2
    · have hd : decide ((k : Int) - 1 ≤ C.length) = true := decide_eq_true (by omega)
      go_wp2_with fail
      refine (of_any C a c _ _ HC4.out).mono ?_
      rintro e w' ⟨rfl, hb⟩
      have HD5 := Lib.hid (HD4.out.keep hb)
      have HB5 := Lib.hid (hB.on hb)
      clear hb
      go_wp2_with fail
      refine (rof_any C a2 c2 _ _ HD5.out).mono ?_
      rintro e w5 ⟨rfl, rfl⟩
      go_wp2_with fail
      go_roundw
      case rel => exact ⟨k + 1, by omega, by go_num, HB5.out⟩
      case measure => simp; omega
    · have hd : decide ((k : Int) - 1 ≤ C.length) = false := decide_eq_false (by omega)
      have hB9 := HB.out.on hB
      go_wp2
      go_ret
      exact ⟨rfl, hB9⟩
end Go.Proofs.Ytolhajkbamhdgaa
