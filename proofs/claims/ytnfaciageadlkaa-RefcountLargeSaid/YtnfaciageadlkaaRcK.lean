/-
  The example of chapter 34: run, awake.
  Conditions: as each theorem says.
-/
import Derived.Test.YtnfaciageadlkaaRcJ
import Derived.Test.YtnfaciageadlkaaGD
import Derived.Deep.CutRange
namespace Go.Proofs.Ytnfaciageadlkaa
set_option linter.unusedSimpArgs false
set_option linter.unusedVariables false
set_option maxRecDepth 100000
open Go.RowKit

set_option maxRecDepth 100000 in
set_option maxHeartbeats 1000000 in
theorem run34_any (s n : Int) (w : World) :
    Calls Try.prog 12 #[.int .i64 s, .int .i64 n] w fun e w' => ∃ g, w.heap.size ≤ g ∧ e = .returned (.slice (some ⟨g, 0, none⟩) 1 1) ∧ OwnE w' w.heap.size (.slice (some ⟨g, 0, none⟩) 1 1) [⟨0, n, s⟩] ∧ Below w.heap.size w w' := by
  go_enter Try.func12, Try.ntmps12
  go_wp2_with fail
  go_ret
  exact ⟨_, Nat.le_refl _, rfl, OwnE.lit w #[.int .i64 0, .int .i64 n, .int .i64 s] [⟨0, n, s⟩] rfl (by simp [maxLen]) _ (Nat.le_refl _), (Below.refl _ _).onAlloc _⟩
theorem of_is (C : List Int) (a : Option Addr) (c : Nat) (s r : Int) (w : World) (hrC : RdI w a C) (h : ofC C s = r) :
    Calls Try.prog 11 #[.agg #[.slice a C.length c], .int .i64 s] w fun e w' => e = .returned (.int .i64 r) ∧ Below w.heap.size w w' := by subst h; exact of_any C a c s w hrC
theorem total_is (C : List Int) (a : Option Addr) (c : Nat) (r : Int) (w : World) (hrC : RdI w a C) (hR : inR 0 1000000000 C) (h : sumC C = r) :
    Calls Try.prog 7 #[.agg #[.slice a C.length c]] w fun e w' => e = .returned (.int .i64 r) ∧ Below w.heap.size w w' := by subst h; exact total_any C a c w hrC hR
theorem used_is (C : List Int) (a : Option Addr) (c : Nat) (r : Int) (w : World) (hrC : RdI w a C) (hR : inR 0 1000000000 C) (h : usedC C = r) :
    Calls Try.prog 8 #[.agg #[.slice a C.length c]] w fun e w' => e = .returned (.int .i64 r) ∧ Below w.heap.size w w' := by subst h; exact used_any C a c w hrC hR
structure AwS34 (w0 W : World) (T : Nat) (C : List Int) (a : Option Addr) (c : Nat) : Prop where
  t : W.cell? ⟨T, 0, none⟩ = some (.slice a C.length c)
  ft : W.frozen? ⟨T, 0, none⟩ = false
  r : RdI W a C
  B : Below w0.heap.size w0 W
theorem AwS34.later {w0 W W' : World} {T : Nat} {C : List Int} {a : Option Addr} {c : Nat} (h : AwS34 w0 W T C a c) (hb : Below W.heap.size W W') : AwS34 w0 W' T C a c :=
  ⟨hb.keep h.t, hb.keepF h.t h.ft, h.r.keep hb, h.B.on hb⟩
/-- Behind a statement of awake: c reads as C. -/
def AwC (w0 : World) (T : Nat) (C : List Int) (v : Value) (wx : World) : Prop :=
  v = .int .i64 0 ∧ ∃ a c, wx.cell? ⟨T, 0, none⟩ = some (.slice a C.length c) ∧ wx.frozen? ⟨T, 0, none⟩ = false ∧ OwnI wx (T + 1) (.slice a C.length c) C ∧ Below w0.heap.size w0 wx
theorem keepNew {W w' : World} {t : TypeId} (hb : Below ((W.alloc (.cells #[.slice none 0 0] t)).drew).heap.size (W.alloc (.cells #[.slice none 0 0] t)).drew w') :
    w'.cell? ⟨W.heap.size, 0, none⟩ = some (.slice none 0 0) ∧ w'.frozen? ⟨W.heap.size, 0, none⟩ = false :=
  ⟨hb.keep (by simp), hb.keepF (v := .slice none 0 0) (by simp) (by simp)⟩
theorem keepNew' {W w' : World} {t : TypeId} (hb : Below (W.alloc (.cells #[.slice none 0 0] t)).heap.size (W.alloc (.cells #[.slice none 0 0] t)) w') :
    w'.cell? ⟨W.heap.size, 0, none⟩ = some (.slice none 0 0) ∧ w'.frozen? ⟨W.heap.size, 0, none⟩ = false :=
  ⟨hb.keep (by simp), hb.keepF (v := .slice none 0 0) (by simp) (by simp)⟩
def AwD (w0 : World) (T : Nat) (a3 : Option Addr) (c3 : Nat) (p f v : Value) (wx : World) : Prop :=
  v = .int .i64 0 ∧ ∃ X ad cd fa fc, p = .pointer (some ⟨X, 0, none⟩) ∧ f = .slice fa 1 fc ∧ wx.cell? ⟨X, 0, none⟩ = some (.slice ad 10 cd) ∧ RdI wx ad [0, 0, 2, 2, 2, 2, 0, 0, 0, 0] ∧ Rd wx fa [⟨0, 1, 6⟩] ∧ AwS34 w0 wx T [0, 0, 2, 2, 2, 3, 1, 0, 0, 0] a3 c3
theorem runs_canon {R : List E} (h : Canon R) : runsL R = R := (runs_is R R h fun _ => Iff.rfl).symm
theorem runs_six : runsL (freedL [0, 0, 2, 2, 2, 2, 0, 0, 0, 0] [⟨0, 2, 5⟩]) = [⟨0, 1, 6⟩] := by
  rw [show freedL [0, 0, 2, 2, 2, 2, 0, 0, 0, 0] [⟨0, 2, 5⟩] = [⟨0, 1, 6⟩] from (sameB_iff _ _).1 (by decide)]
  exact runs_canon ⟨by intro x hx; simp at hx; subst hx; exact ⟨rfl, by decide⟩, by simp⟩
set_option maxRecDepth 100000 in
set_option maxHeartbeats 4000000 in
theorem awake34_any (w : World) : Calls Try.prog 4 #[] w fun e w' => e = .returned (.bool true) ∧ Below w.heap.size w w' := by
  have HC1 : Hid (chgL [0, 0, 0, 0, 0, 0, 0, 0, 0, 0] [⟨0, 4, 2⟩, ⟨0, 4, 2⟩] 1 = [0, 0, 2, 2, 2, 2, 0, 0, 0, 0]) := Lib.hid (by decide)
  have HC2 : Hid (chgL [0, 0, 2, 2, 2, 2, 0, 0, 0, 0] [⟨0, 2, 5⟩] 1 = [0, 0, 2, 2, 2, 3, 1, 0, 0, 0]) := Lib.hid (by decide)
  have HC3 : Hid (chgL [0, 0, 2, 2, 2, 3, 1, 0, 0, 0] [⟨0, 2, 5⟩] (-1) = [0, 0, 2, 2, 2, 2, 0, 0, 0, 0]) := Lib.hid (by decide)
  have HF3 := Lib.hid runs_six
  go_enter Try.func4, Try.ntmps4
  go_wp2_with fail
  refine (new_yes 10 _ (by omega)).mono ?_
  rintro e w1 ⟨v, rfl, ho1, hb1⟩
  obtain ⟨a1, c1, rfl, hr1⟩ := ho1.rd (by simp)
  rw [List.length_replicate] at ho1 ⊢
  have hn1 := ho1.lt
  clear ho1
  go_upto_region 2 with fail
  have hS : AwS34 w (w1.alloc (.cells #[.slice a1 10 c1] 27)) w1.heap.size [0, 0, 0, 0, 0, 0, 0, 0, 0, 0] a1 c1 :=
    ⟨by simp, by simp, hr1.keep ((Below.refl w1.heap.size w1).onAlloc (.cells #[.slice a1 10 c1] 27)), hb1.onAlloc (.cells #[.slice a1 10 c1] 27)⟩
  have hT := hb1.size
  generalize w1.alloc (.cells #[.slice a1 10 c1] 27) = W1 at *
  generalize w1.heap.size = T at *
  clear hb1 hn1
  have tokA : True := trivial
  obtain ⟨i0, hi, hz0, hz1, hz2⟩ := info_parts infoE
  go_cut [3] from 3 to 19 (fun v wx => AwC w T [0, 0, 2, 2, 2, 2, 0, 0, 0, 0] v wx)
  case first =>
    have ht := hS.t
    have hft := hS.ft
    have HS := Lib.hid (hS.later (Below.refl _ _).drew)
    have HBB := Lib.hid (Below.refl W1.drew.heap.size W1.drew)
    have HW2 : Hid (wfL [⟨0, 4, 2⟩, ⟨0, 4, 2⟩]) := Lib.hid (by intro x hx; simp at hx; subst hx; simp [E.wf])
    have HP2 : Hid (permB [0, 0, 0, 0, 0, 0, 0, 0, 0, 0].length [⟨0, 4, 2⟩, ⟨0, 4, 2⟩] = true) := Lib.hid (by decide)
    have HR2 : Hid (inR 0 1000000000 [0, 0, 0, 0, 0, 0, 0, 0, 0, 0]) := Lib.hid (by intro x hx; simp at hx; subst hx; omega)
    go_region_law (first
      | (refine step_append_x _ (by rfl) (.tmp 14) (.tmp 15) 34 (by rfl) 0 32 i0 (.agg #[.int .i64 0, .int .i64 0, .int .i64 0]) 3 24 Try.underlying34 hi hz0 hz1 hz2 rfl (by decide) (.slice (some ⟨ga, 0, none⟩) 1 1) 1 (cellsL [⟨0, 4, 2⟩]) (by rfl) ((OwnE.keep hoa hbb).mono (Nat.zero_le _)) ⟨gb, 0, none⟩ 1 1 (cellsL [⟨0, 4, 2⟩]) (by rfl) rfl hnb (cellsL_one _) (by omega) (by simp [maxLen]) (Nat.zero_le _) ?_; intro v1 w4 hown1 hgrow1 hwhere1; have HBB := Lib.hid (HBB.out.onGrow hgrow1 (by intro j hj; injection hj with hj; subst hj; exact hga1)); have ht := (HS.out.later HBB.out).t; have hft := (HS.out.later HBB.out).ft)
      | (go_simp; go_at_call 12; have _t := tokA; refine (run34_any 2 4 _).mono ?_; rintro e wa ⟨ga, hga, rfl, hoa, hba⟩; have hga1 := Nat.le_trans HBB.out.size hga; have HBB := Lib.hid (HBB.out.on hba); have ht := (HS.out.later HBB.out).t; have hft := (HS.out.later HBB.out).ft; clear tokA)
      | (go_simp; go_at_call 12; refine (run34_any 2 4 _).mono ?_; rintro e wb ⟨gb, hgb, rfl, hob, hbb⟩; have hnb := World.ownsRow.cells hob (g := gb) rfl; have HBB := Lib.hid (HBB.out.on hbb); have ht := (HS.out.later HBB.out).t; have hft := (HS.out.later HBB.out).ft)
      | (go_simp; go_at_call 6; obtain ⟨ra, rc, rfl, hrl⟩ := (OwnE.append (l := [⟨0, 4, 2⟩]) (r := [⟨0, 4, 2⟩]) hown1 rfl).rd (by simp); refine (add_yes [0, 0, 0, 0, 0, 0, 0, 0, 0, 0] [⟨0, 4, 2⟩, ⟨0, 4, 2⟩] a1 ra c1 rc _ (HS.out.later HBB.out).r hrl HW2.out HP2.out HR2.out (by simp)).mono ?_; rintro e w5 ⟨v5, rfl, ho5, hb5⟩; rw [HC1.out] at ho5; obtain ⟨a5, c5, rfl, _⟩ := ho5.rd (by simp); have hTg : T + 1 ≤ w4.heap.size := World.block_lt_of_cell? _ _ ht; have HBB := Lib.hid (HBB.out.on hb5); have ht := (HS.out.later HBB.out).t; have hft := (HS.out.later HBB.out).ft))
    all_goals
      have HO5 := Lib.hid ((ho5.mono hTg).away ⟨T, 0, none⟩ (.slice a5 10 c5) (fun h => by have := (ho5.lt _ h).1; simp at this; omega))
      have HB5 := Lib.hid ((HS.out.later HBB.out).B.setCell (p := ⟨T, 0, none⟩) (by simp; omega) (.slice a5 10 c5))
      have HT5 := Lib.hid (World.cell?_setCell_same (v := .slice a5 10 c5) _ _ ht)
      have HF5 : Hid ((w5.setCell ⟨T, 0, none⟩ (.slice a5 10 c5)).frozen? ⟨T, 0, none⟩ = false) := Lib.hid (by rw [World.frozen?_setCell]; exact hft)
      have HQ : Hid (AwC w T [0, 0, 2, 2, 2, 2, 0, 0, 0, 0] (.int .i64 0) (w5.setCell ⟨T, 0, none⟩ (.slice a5 10 c5))) := Lib.hid ⟨rfl, a5, c5, HT5.out, HF5.out, HO5.out, HB5.out⟩
      clear ho5 hb5 hTg ht hft hown1 hgrow1 hwhere1 hnb hob hbb hoa hga1 hga hgb HT5 HF5 HO5 HB5
      go_wp2_with fail
      go_meet
      exact HQ.out
  case rest =>
    obtain ⟨rfl, a2, c2, ht, hft, hoc, hB⟩ := hcut
    clear hS
    obtain ⟨W2, rfl⟩ : ∃ W2 : World, W2 = wc := ⟨_, rfl⟩
    go_wp2_with fail
    have HT0 : T < W2.heap.size := World.block_lt_of_cell? _ _ ht
    have hS : AwS34 w W2 T [0, 0, 2, 2, 2, 2, 0, 0, 0, 0] a2 c2 := ⟨ht, hft, hoc.rd' (by simp), hB⟩
    clear hoc hB ht hft
    go_cut [4] from 4 to 25 (fun v wx => AwC w T [0, 0, 2, 2, 2, 3, 1, 0, 0, 0] v wx)
    case first =>
      have ht := hS.t
      have hft := hS.ft
      have HS := Lib.hid (hS.later (Below.refl _ _).drew)
      have HBB := Lib.hid (Below.refl W2.drew.heap.size W2.drew)
      have HW2 : Hid (wfL [⟨0, 2, 5⟩]) := Lib.hid (by intro x hx; simp at hx; subst hx; simp [E.wf])
      have HP2 : Hid (permB [0, 0, 2, 2, 2, 2, 0, 0, 0, 0].length [⟨0, 2, 5⟩] = true) := Lib.hid (by decide)
      have HR2 : Hid (inR 0 1000000000 [0, 0, 2, 2, 2, 2, 0, 0, 0, 0]) := Lib.hid (by intro x hx; simp at hx; omega)
      go_region_law (first
        | (go_simp; go_at_call 12; refine (run34_any 5 2 _).mono ?_; rintro e wa ⟨ga, hga, rfl, hoa, hba⟩; have HBB := Lib.hid (HBB.out.on hba); have ht := (HS.out.later HBB.out).t; have hft := (HS.out.later HBB.out).ft)
        | (go_simp; go_at_call 6; obtain ⟨ra, rc, hre, hrl⟩ := OwnE.rd hoa (by simp); injection hre with hre1 hre2 hre3; subst hre1; clear hre2 hre3; have hTg : T + 1 ≤ wa.heap.size := World.block_lt_of_cell? _ _ ht; refine (add_yes [0, 0, 2, 2, 2, 2, 0, 0, 0, 0] [⟨0, 2, 5⟩] a2 _ c2 1 _ (HS.out.later HBB.out).r hrl HW2.out HP2.out HR2.out (by simp)).mono ?_; rintro e w5 ⟨v5, rfl, ho5, hb5⟩; rw [HC2.out] at ho5; obtain ⟨a5, c5, rfl, _⟩ := ho5.rd (by simp); have HBB := Lib.hid (HBB.out.on hb5); have ht := (HS.out.later HBB.out).t; have hft := (HS.out.later HBB.out).ft))
      all_goals
        have HO5 := Lib.hid ((ho5.mono hTg).away ⟨T, 0, none⟩ (.slice a5 10 c5) (fun h => by have := (ho5.lt _ h).1; simp at this; omega))
        have HB5 := Lib.hid ((HS.out.later HBB.out).B.setCell (p := ⟨T, 0, none⟩) (by simp; omega) (.slice a5 10 c5))
        have HT5 := Lib.hid (World.cell?_setCell_same (v := .slice a5 10 c5) _ _ ht)
        have HF5 : Hid ((w5.setCell ⟨T, 0, none⟩ (.slice a5 10 c5)).frozen? ⟨T, 0, none⟩ = false) := Lib.hid (by rw [World.frozen?_setCell]; exact hft)
        have HQ : Hid (AwC w T [0, 0, 2, 2, 2, 3, 1, 0, 0, 0] (.int .i64 0) (w5.setCell ⟨T, 0, none⟩ (.slice a5 10 c5))) := Lib.hid ⟨rfl, a5, c5, HT5.out, HF5.out, HO5.out, HB5.out⟩
        clear ho5 hb5 hTg ht hft hoa hga hba HT5 HF5 HO5 HB5
        go_wp2_with fail
        go_meet
        exact HQ.out
    case rest =>
      obtain ⟨rfl, a3, c3, ht, hft, hoc, hB⟩ := hcut
      clear hS
      obtain ⟨W3, rfl⟩ : ∃ W3 : World, W3 = wc := ⟨_, rfl⟩
      go_wp2_with fail
      have hS : AwS34 w W3 T [0, 0, 2, 2, 2, 3, 1, 0, 0, 0] a3 c3 := ⟨ht, hft, hoc.rd' (by simp), hB⟩
      clear hoc hB hft
      go_cut [5, 6, 7] from 5 to 32 (fun p f v wx => AwD w T a3 c3 p f v wx)
      case first =>
        have HS := Lib.hid (hS.later (Below.refl _ _).drew)
        have HW2 : Hid (wfL [⟨0, 2, 5⟩]) := Lib.hid (by intro x hx; simp at hx; subst hx; simp [E.wf])
        have HP2 : Hid (permB [0, 0, 2, 2, 2, 3, 1, 0, 0, 0].length [⟨0, 2, 5⟩] = true) := Lib.hid (by decide)
        have HR2 : Hid (inR 0 1000000000 [0, 0, 2, 2, 2, 3, 1, 0, 0, 0]) := Lib.hid (by intro x hx; simp at hx; omega)
        have HN2 : Hid (negB (chgL [0, 0, 2, 2, 2, 3, 1, 0, 0, 0] [⟨0, 2, 5⟩] (-1)) = false) := Lib.hid (by decide)
        have hWd : W3.drew.heap.size = W3.heap.size := rfl
        have HT3 : T < W3.heap.size := World.block_lt_of_cell? _ _ ht
        have HWD := Lib.hid hWd
        clear hWd
        go_region_held3 (fun w' => w'.cell? ⟨T, 0, none⟩ = some (.slice a3 10 c3) ∧ Below W3.drew.heap.size W3.drew w')
          (first
            | exact ⟨ht, Below.refl _ _⟩
            | (have hH := ‹_ ∧ Below W3.drew.heap.size W3.drew _›; first | exact ⟨(HS.out.later (hH.2.on hba)).t, hH.2.on hba⟩ | exact ⟨(HS.out.later hB5).t, hB5⟩ | exact ⟨(HS.out.later (hB5.onAlloc _)).t, hB5.onAlloc _⟩ | exact ⟨(HS.out.later (hH.2.onAlloc _)).t, hH.2.onAlloc _⟩ | exact ⟨(HS.out.later (hB5.setCell (Nat.le_refl _) _)).t, hB5.setCell (Nat.le_refl _) _⟩ | exact ⟨(HS.out.later (hB5.setCell hza _)).t, hB5.setCell hza _⟩))
          (first
            | (go_at_call 12; have hH := ‹_ ∧ Below W3.drew.heap.size W3.drew _›; refine (run34_any 5 2 _).mono ?_; rintro e wa ⟨ga, hga, rfl, hoa, hba⟩; have hza := (hH.2.on hba).size; (try (have hq1 := keepNew hba; have hx1 := hq1.1; have hf1 := hq1.2; clear hq1)))
            | (go_at_call 10; have hH := ‹_ ∧ Below W3.drew.heap.size W3.drew _›; obtain ⟨ra, rc, hre, hrl⟩ := OwnE.rd hoa (by simp); injection hre with hre1 hre2 hre3; subst hre1; clear hre2 hre3; refine (drop_yes [0, 0, 2, 2, 2, 3, 1, 0, 0, 0] [⟨0, 2, 5⟩] a3 _ c3 1 _ (HS.out.later hH.2).r (by first | exact hrl | exact hrl.keep ((Below.refl _ _).onAlloc _)) HW2.out HP2.out HR2.out (by simp) HN2.out).mono ?_; rintro e w5 ⟨v5, f5, rfl, ho5, hf5, hb5⟩; rw [HC3.out] at ho5; obtain ⟨a5, c5, rfl, hr5⟩ := ho5.rd (by simp); rw [HC3.out, HF3.out] at hf5; obtain ⟨fa, fc, rfl, hrf5⟩ := hf5.rd (by simp); have hB5 := hH.2.on hb5; (try have hx5 := hb5.keep hx1); (try have hf5' := hb5.keepF hx1 hf1); (try (have hq1 := keepNew' hb5; have hx5 := hq1.1; have hf5' := hq1.2; clear hq1))))
        · have HQ : Hid (AwD w T a3 c3 (.pointer (some ⟨w5.heap.size, 0, none⟩)) (.slice fa 1 fc) (.int .i64 0) (w5.alloc (.cells #[.slice a5 10 c5] 27))) :=
            Lib.hid ⟨rfl, _, a5, c5, fa, fc, rfl, rfl, by simp, hr5.keep ((Below.refl _ _).onAlloc _), hrf5.keep ((Below.refl _ _).onAlloc _), HS.out.later (hB5.onAlloc _)⟩
          clear ho5 hf5 hb5 hr5 hrf5 hoa hba hga
          go_wp2_with fail
          go_meet
          exact HQ.out
        · have HQ : Hid (AwD w T a3 c3 (.pointer (some ⟨wa.heap.size, 0, none⟩)) (.slice fa 1 fc) (.int .i64 0) (w5.setCell ⟨wa.heap.size, 0, none⟩ (.slice a5 10 c5))) :=
            Lib.hid ⟨rfl, _, a5, c5, fa, fc, rfl, rfl, World.cell?_setCell_same _ _ _ hx5, (ho5.away ⟨wa.heap.size, 0, none⟩ _ (fun h => by have := (ho5.lt _ h).1; simp at this; omega)).rd' (by simp),
              (hf5.away ⟨wa.heap.size, 0, none⟩ _ (fun h => by have := (hf5.lt _ h).1; simp at this; omega)).rd' (by simp), HS.out.later (hB5.setCell hza _)⟩
          clear ho5 hf5 hb5 hr5 hrf5 hoa hba hga hx5 hf5'
          go_wp2_with fail
          go_meet
          exact HQ.out
        · have hlt := World.block_lt_of_cell? _ _ hx1
          have HQ : Hid (AwD w T a3 c3 (.pointer (some ⟨W3.heap.size, 0, none⟩)) (.slice fa 1 fc) (.int .i64 0) (w5.setCell ⟨W3.heap.size, 0, none⟩ (.slice a5 10 c5))) :=
            Lib.hid ⟨rfl, _, a5, c5, fa, fc, rfl, rfl, World.cell?_setCell_same _ _ _ hx5, (ho5.away ⟨W3.heap.size, 0, none⟩ _ (fun h => by have := (ho5.lt _ h).1; simp at this hlt; omega)).rd' (by simp),
              (hf5.away ⟨W3.heap.size, 0, none⟩ _ (fun h => by have := (hf5.lt _ h).1; simp at this hlt; omega)).rd' (by simp), HS.out.later (hB5.setCell (Nat.le_refl _) _)⟩
          clear ho5 hf5 hb5 hr5 hrf5 hoa hba hga hx5 hf5' hx1 hf1 hlt
          go_wp2_with fail
          go_meet
          exact HQ.out
      case rest =>
        obtain ⟨rfl, X, ad, cd, fa, fc, rfl, rfl, hx, hrd, hrf, hS⟩ := hcut
        have HRD := Lib.hid hrd
        have HRF := Lib.hid hrf
        have HSS := Lib.hid hS
        replace ht := hS.t
        clear hrd hrf hS
        have HR3 : Hid (inR 0 1000000000 [0, 0, 2, 2, 2, 2, 0, 0, 0, 0]) := Lib.hid (by intro x hx; simp at hx; omega)
        go_wp2_with fail
        refine (of_is [0, 0, 2, 2, 2, 3, 1, 0, 0, 0] a3 c3 5 3 _ HSS.out.r (by decide)).mono ?_
        rintro e w6 ⟨rfl, hb⟩
        have HSS := Lib.hid (HSS.out.later hb)
        have HRD := Lib.hid (HRD.out.keep hb)
        have HRF := Lib.hid (HRF.out.keep hb)
        replace ht := hb.keep ht
        replace hx := hb.keep hx
        clear hb
        go_wp2_with fail
        refine (of_is [0, 0, 2, 2, 2, 3, 1, 0, 0, 0] a3 c3 6 1 _ HSS.out.r (by decide)).mono ?_
        rintro e w6 ⟨rfl, hb⟩
        have HSS := Lib.hid (HSS.out.later hb)
        have HRD := Lib.hid (HRD.out.keep hb)
        have HRF := Lib.hid (HRF.out.keep hb)
        replace ht := hb.keep ht
        replace hx := hb.keep hx
        clear hb
        go_wp2_with fail
        refine (of_is [0, 0, 2, 2, 2, 2, 0, 0, 0, 0] ad cd 6 0 _ HRD.out (by decide)).mono ?_
        rintro e w6 ⟨rfl, hb⟩
        have HSS := Lib.hid (HSS.out.later hb)
        have HRD := Lib.hid (HRD.out.keep hb)
        have HRF := Lib.hid (HRF.out.keep hb)
        replace ht := hb.keep ht
        replace hx := hb.keep hx
        clear hb
        go_wp2_with fail
        refine (run34_any 6 1 _).mono ?_
        rintro e w6 ⟨gb, hgb, rfl, hob, hb⟩
        have HSS := Lib.hid (HSS.out.later hb)
        have HRD := Lib.hid (HRD.out.keep hb)
        have HRF := Lib.hid (HRF.out.keep hb)
        replace ht := hb.keep ht
        replace hx := hb.keep hx
        clear hb
        have HOB := Lib.hid (hob.rd' (by simp))
        clear hob
        go_wp2_with fail
        refine (same_is [⟨0, 1, 6⟩] [⟨0, 1, 6⟩] fa (some ⟨gb, 0, none⟩) fc 1 true _ (sameB_refl _) HRF.out HOB.out).mono ?_
        rintro e w6 ⟨rfl, hb⟩
        have HSS := Lib.hid (HSS.out.later hb)
        have HRD := Lib.hid (HRD.out.keep hb)
        have HRF := Lib.hid (HRF.out.keep hb)
        replace ht := hb.keep ht
        replace hx := hb.keep hx
        clear hb
        clear HOB
        go_wp2_with fail
        refine (total_is [0, 0, 2, 2, 2, 2, 0, 0, 0, 0] ad cd 8 _ HRD.out HR3.out (by decide)).mono ?_
        rintro e w6 ⟨rfl, hb⟩
        have HSS := Lib.hid (HSS.out.later hb)
        have HRD := Lib.hid (HRD.out.keep hb)
        have HRF := Lib.hid (HRF.out.keep hb)
        replace ht := hb.keep ht
        replace hx := hb.keep hx
        clear hb
        go_wp2_with fail
        refine (used_is [0, 0, 2, 2, 2, 2, 0, 0, 0, 0] ad cd 4 _ HRD.out HR3.out (by decide)).mono ?_
        rintro e w6 ⟨rfl, hb⟩
        have HSS := Lib.hid (HSS.out.later hb)
        have HRD := Lib.hid (HRD.out.keep hb)
        have HRF := Lib.hid (HRF.out.keep hb)
        replace ht := hb.keep ht
        replace hx := hb.keep hx
        clear hb
        go_wp2_with fail
        go_ret
        exact ⟨rfl, HSS.out.B⟩
end Go.Proofs.Ytnfaciageadlkaa
