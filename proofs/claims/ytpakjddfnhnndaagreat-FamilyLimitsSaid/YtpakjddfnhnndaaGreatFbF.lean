/-
  tegularef36: how a family of the reference lies in memory; New, At.
  Conditions: as each theorem says.
-/
import Derived.Test.YtpakjddfnhnndaaGreatFaJ
namespace Go.Proofs.YtpakjddfnhnndaaGreat
set_option linter.unusedSimpArgs false
set_option linter.unusedVariables false
set_option maxRecDepth 100000
open Go.RowKit

/-- A volume of the reference in memory. -/
structure RT where
  nm : List UInt8
  n : Int
  r : Int
  a : Option Addr
  c : Nat
  l : List E
def RT.vol (x : RT) : Vol := ⟨x.nm, x.n, x.r, x.l⟩
abbrev RT.sl (x : RT) : Value := .slice x.a x.l.length x.c
abbrev RT.val (x : RT) : Value := .agg #[nmV x.nm, .int .i64 x.n, .int .i64 x.r, x.sl]
def RT.cells (x : RT) : List Value := [nmV x.nm, .int .i64 x.n, .int .i64 x.r, x.sl]
def cellsR (ts : List RT) : List Value := ts.flatMap RT.cells
theorem cellsR_length (l : List RT) : (cellsR l).length = l.length * 4 := by
  induction l with
  | nil => rfl
  | cons x r ih => simp only [cellsR, List.flatMap_cons, List.length_append, List.length_cons] at ih ⊢; rw [ih]; simp [RT.cells]; omega
theorem cellsR_append (l r : List RT) : cellsR (l ++ r) = cellsR l ++ cellsR r := by simp [cellsR]
theorem cellsR_get (l : List RT) : ∀ (k : Nat) (x : RT), l[k]? = some x → (cellsR l)[k * 4]? = some (nmV x.nm) ∧ (cellsR l)[k * 4 + 1]? = some (.int .i64 x.n) ∧ (cellsR l)[k * 4 + 2]? = some (.int .i64 x.r) ∧ (cellsR l)[k * 4 + 3]? = some x.sl := by
  induction l with
  | nil => intro k x h; simp at h
  | cons y r ih =>
    intro k x h
    cases k with
    | zero => simp at h; subst h; simp [cellsR, RT.cells]
    | succ k =>
      obtain ⟨h1, h2, h3, h4⟩ := ih k x (by simpa using h)
      have e : cellsR (y :: r) = y.cells ++ cellsR r := rfl
      have e4 : y.cells.length = 4 := rfl
      rw [e]
      refine ⟨?_, ?_, ?_, ?_⟩
      · rw [List.getElem?_append_right (by omega), ← h1]; congr 1; omega
      · rw [List.getElem?_append_right (by omega), ← h2]; congr 1; omega
      · rw [List.getElem?_append_right (by omega), ← h3]; congr 1; omega
      · rw [List.getElem?_append_right (by omega), ← h4]; congr 1; omega
theorem cellsR_one (l : List RT) : ∀ u ∈ cellsR l, u.oneCell' = true := by
  intro u hu
  simp only [cellsR, List.mem_flatMap, RT.cells] at hu
  obtain ⟨x, _, hx⟩ := hu
  simp at hx
  rcases hx with rfl | rfl | rfl | rfl <;> rfl
theorem infoRV : (Tryz.prog.info? 56).map (fun i => (i.zero, i.size, i.bytes)) = some (some (.agg #[.string ⟨#[]⟩, .int .i64 0, .int .i64 0, .slice none 0 0]), 4, 56) := by kernel_rfl
structure AtR (w : World) (b o k : Nat) (x : RT) : Prop where
  c0 : w.cell? ⟨b, o + k * 4, none⟩ = some (nmV x.nm)
  c1 : w.cell? ⟨b, o + k * 4 + 1, none⟩ = some (.int .i64 x.n)
  c2 : w.cell? ⟨b, o + k * 4 + 2, none⟩ = some (.int .i64 x.r)
  c3 : w.cell? ⟨b, o + k * 4 + 3, none⟩ = some x.sl
theorem AtR.keep {w w' : World} {b o k : Nat} {x : RT} (h : AtR w b o k x) (hb : Below w.heap.size w w') : AtR w' b o k x := ⟨hb.keep h.c0, hb.keep h.c1, hb.keep h.c2, hb.keep h.c3⟩
/-- The lists of the volumes read. -/
def ListsR (w : World) (ts : List RT) : Prop := ∀ x ∈ ts, Rd w x.a x.l
theorem ListsR.keep {w w' : World} {ts : List RT} (h : ListsR w ts) (hb : Below w.heap.size w w') : ListsR w' ts := fun x hx => (h x hx).keep hb
/-- The slice at a reads as these volumes. -/
def RdR (w : World) (a : Option Addr) (ts : List RT) : Prop :=
  ts.length ≤ 1000000 ∧ (ts = [] ∨ ∃ b o, a = some ⟨b, o, none⟩ ∧ ∀ k x, ts[k]? = some x → AtR w b o k x)
theorem RdR.keep {w w' : World} {a : Option Addr} {ts : List RT} (h : RdR w a ts) (hb : Below w.heap.size w w') : RdR w' a ts :=
  ⟨h.1, h.2.imp id fun ⟨b, o, ha, hc⟩ => ⟨b, o, ha, fun k x hk => (hc k x hk).keep hb⟩⟩
theorem RdR.at {w : World} {a : Option Addr} {l : List RT} (hr : RdR w a l) (h : 0 < l.length) : ∃ b o, a = some ⟨b, o, none⟩ ∧ ∀ k x, l[k]? = some x → AtR w b o k x :=
  hr.2.resolve_left (by intro e; rw [e] at h; simp at h)
/-- The slice value v, owned from block B on, holds these volumes. -/
def OwnR (w : World) (B : Nat) (v : Value) (l : List RT) : Prop := w.ownsRow B 56 4 v l.length (cellsR l)
theorem OwnR.nil (w : World) (B : Nat) : OwnR w B (.slice none 0 0) [] := World.ownsRow_nil _ _ _ _
theorem OwnR.lt {w : World} {B : Nat} {v : Value} {l : List RT} (h : OwnR w B v l) : ∀ k, v.ownBlock = some k → B ≤ k ∧ k < w.heap.size := World.ownsRow.lt h
theorem OwnR.mono {w : World} {B B' : Nat} {v : Value} {l : List RT} (h : OwnR w B v l) (hB : B' ≤ B) : OwnR w B' v l :=
  ⟨h.1, h.2.imp id fun ⟨g, cap, cur, hv, hg, r⟩ => ⟨g, cap, cur, hv, Nat.le_trans hB hg, r⟩⟩
theorem OwnR.keep {w w' : World} {B : Nat} {v : Value} {l : List RT} (h : OwnR w B v l) (hb : Below w.heap.size w w') : OwnR w' B v l :=
  World.ownsRow.kept h (row := none) ⟨hb.os, hb.tape, hb.output, hb.size, fun k hk _ => hb.block k hk⟩ (by cases hv : v.ownBlock <;> simp)
theorem OwnR.rd {w : World} {B : Nat} {v : Value} {l : List RT} (h : OwnR w B v l) (hl : l.length ≤ 1000000) : ∃ a c, v = .slice a l.length c ∧ RdR w a l := by
  rcases h.2 with ⟨rfl, hn⟩ | ⟨g, cap, cur, rfl, hb, hg, hn, hc, hs, ht⟩
  · obtain rfl := List.eq_nil_of_length_eq_zero hn
    exact ⟨_, _, rfl, by simp, .inl rfl⟩
  · refine ⟨_, _, rfl, hl, .inr ⟨g, 0, rfl, fun k x hk => ?_⟩⟩
    have hk' : k < l.length := (List.getElem?_eq_some_iff.1 hk).1
    obtain ⟨h1, h2, h3, h4⟩ := cellsR_get l k x hk
    have c := fun j hj => World.ownsRow.cellAt (cap := cap) h j hj
    refine ⟨?_, ?_, ?_, ?_⟩
    · rw [Nat.zero_add, c _ (by omega), h1]
    · rw [Nat.zero_add, c _ (by omega), h2]
    · rw [Nat.zero_add, c _ (by omega), h3]
    · rw [Nat.zero_add, c _ (by omega), h4]
theorem OwnR.cap {w : World} {B : Nat} {a : Option Addr} {n c : Nat} {l : List RT} (h : OwnR w B (.slice a n c) l) : l.length ≤ c := by
  rcases h.2 with ⟨h1, hn⟩ | ⟨g, cap, cur, h1, hb, hg, hn, hc, hs, ht⟩
  · omega
  · injection h1 with _ _ h1
    omega
/-- The value v is the reference's family F. -/
def FamR (w : World) (v : Value) (F : Fam) : Prop := ∃ a c ts, v = .agg #[.int .i64 F.N, .slice a ts.length c] ∧ RdR w a ts ∧ ListsR w ts ∧ ts.map RT.vol = F.vs ∧ ts.length ≤ c
theorem FamR.keep {w w' : World} {v : Value} {F : Fam} (h : FamR w v F) (hb : Below w.heap.size w w') : FamR w' v F := by
  obtain ⟨a, c, ts, rfl, h1, h2, h3⟩ := h
  exact ⟨a, c, ts, rfl, h1.keep hb, h2.keep hb, h3⟩
/-- Where a volume of this name lies. -/
def placeR (ts : List RT) (nm : List UInt8) : Option Nat := ts.findIdx? fun x => x.nm == nm
def atC (ts : List RT) (nm : List UInt8) : Int := match placeR ts nm with
  | some k => k
  | none => -1
theorem atC_none {ts : List RT} {nm : List UInt8} (h : ∀ x ∈ ts, (x.nm == nm) = false) : atC ts nm = -1 := by
  have : placeR ts nm = none := List.findIdx?_eq_none_iff.2 h
  simp [atC, this]
theorem atC_some {ts : List RT} {nm : List UInt8} {k : Nat} (hk : k < ts.length) (h : ∀ x ∈ ts.take k, (x.nm == nm) = false) (he : (ts[k].nm == nm) = true) : atC ts nm = k := by
  have : placeR ts nm = some k := List.findIdx?_eq_some_iff_getElem.2 ⟨hk, he, fun j hj => by
    have := h ts[j] (List.mem_take_iff_getElem.2 ⟨j, by omega, rfl⟩)
    simpa using this⟩
  simp [atC, this]
set_option maxHeartbeats 2000000 in
theorem rat_is (N : Int) (ts : List RT) (nm : List UInt8) (a : Option Addr) (c : Nat) (w : World) (hr : RdR w a ts) :
    Calls Tryz.prog 31 #[.agg #[.int .i64 N, .slice a ts.length c], nmV nm] w fun e w' => e = .returned (.int .i64 (atC ts nm)) ∧ Below w.heap.size w w' := by
  have hlen := hr.1
  have hb := (Below.refl w.heap.size w).onAlloc (.cells #[.int .i64 N, .slice a ts.length c] 45)
  have HB := Lib.hid hb
  have HR := Lib.hid (hr.keep hb)
  clear hb hr
  go_enter Tryz.func31, Tryz.ntmps31
  go_wp2_with fail
  have HC : Hid ((w.alloc (.cells #[.int .i64 N, .slice a ts.length c] 45)).cell? ⟨w.heap.size, 1, none⟩ = some (.slice a ts.length c)) := Lib.hid (by simp)
  generalize w.alloc (.cells #[.int .i64 N, .slice a ts.length c] 45) = w0 at *
  go_loopw [5] (fun i wr => ∃ k : Nat, k ≤ ts.length ∧ i = .int .i64 k ∧ (∀ x ∈ ts.take k, (x.nm == nm) = false) ∧ Below w0.heap.size w0 wr) (fun i _ => ts.length - (intOf i).toNat)
  case atStart => exact ⟨0, Nat.zero_le _, rfl, by simp, Below.refl _ _⟩
  case round =>
    obtain ⟨k, hk, rfl, hn, hB⟩ := hrel
    have q1 := hB.keep HC.out
    by_cases hlt : k < ts.length
    · obtain ⟨b, o, rfl, hat⟩ := (HR.out.keep hB).at (by omega)
      have h1 := (hat k _ (List.getElem?_eq_getElem hlt)).c0
      have HN := Lib.hid hn
      have HBB := Lib.hid hB
      have HFIN := Lib.hid (fun he => atC_some hlt hn he)
      have HNX := Lib.hid (fun (he : (ts[k].nm == nm) = false) (x : RT) (hx : x ∈ ts.take (k + 1)) => by
        rw [List.take_succ_eq_append_getElem hlt, List.mem_append, List.mem_singleton] at hx
        rcases hx with hx | rfl
        · exact hn x hx
        · exact he)
      generalize ts[k] = x at *
      cases hq : (x.nm == nm)
      · have HQ := Lib.hid hq
        have he : (x.nm = nm) = False := by simpa using hq
        clear hn hB hat
        go_wp2
        go_roundw
        case rel => exact ⟨k + 1, by omega, by go_num, HNX.out HQ.out, HBB.out⟩
        case measure => simp [intOf]; omega
      · have HQ := Lib.hid hq
        have he : (x.nm = nm) = True := by simpa using hq
        clear hn hB hat
        go_wp2
        go_ret
        exact ⟨by rw [HFIN.out HQ.out]; rfl, HB.out.on HBB.out⟩
    · obtain rfl : k = ts.length := by omega
      rw [List.take_length] at hn
      have HA := Lib.hid (atC_none hn)
      have HBB := Lib.hid hB
      clear hn hB
      go_wp2
      go_ret
      exact ⟨by rw [HA.out]; rfl, HB.out.on HBB.out⟩
/-- The result cells of a family of the reference. -/
structure RG (w W : World) (R : Nat) : Prop where
  r0 : W.cell? ⟨R, 0, none⟩ = some (.int .i64 0)
  r1 : W.cell? ⟨R, 1, none⟩ = some (.slice none 0 0)
  f0 : W.frozen? ⟨R, 0, none⟩ = false
  f1 : W.frozen? ⟨R, 1, none⟩ = false
  r2 : ∀ i, 2 ≤ i → W.cell? ⟨R, i, none⟩ = none
  le : w.heap.size ≤ R
  bel : Below w.heap.size w W
theorem RG.lt {w W : World} {R : Nat} (h : RG w W R) : R < W.heap.size := World.block_lt_of_cell? W ⟨R, 0, none⟩ h.r0
theorem RG.later {w W W' : World} {R : Nat} (h : RG w W R) (hb : Below W.heap.size W W') : RG w W' R :=
  ⟨hb.keep h.r0, hb.keep h.r1, hb.keepF h.r0 h.f0, hb.keepF h.r1 h.f1, fun i hi => (hb.cell (p := ⟨R, i, none⟩) h.lt).trans (h.r2 i hi), h.le, h.bel.on hb⟩
theorem RG.new (w W : World) (t : TypeId) (h : Below w.heap.size w W) : RG w (W.alloc (.cells #[.int .i64 0, .slice none 0 0] t)) W.heap.size := by
  refine ⟨by simp, by simp, by simp, by simp, fun i hi => ?_, h.size, h.onAlloc _⟩
  rw [World.cell?_alloc_new]
  simp
  omega
section
variable {w W : World} {R : Nat} (h : RG w W R) {u v : Value}
include h
theorem RG.cells : (fam2 W R u v).cell? ⟨R, 0, none⟩ = some u ∧ (fam2 W R u v).cell? ⟨R, 1, none⟩ = some v := by
  constructor
  · rw [World.cell?_setCell_other _ _ _ _ (by simp), World.cell?_setCell_same _ _ _ h.r0]
  · rw [World.cell?_setCell_same (u := .slice none 0 0)]
    rw [World.cell?_setCell_other _ _ _ _ (by simp), h.r1]
theorem RG.below : Below w.heap.size w (fam2 W R u v) := (h.bel.setCell h.le _).setCell h.le _
end
def RNew (w : World) (G : Fam) (e0 : Int) (e : Ending) (w' : World) : Prop := ∃ gv, e = .returned (.tuple #[gv, .int .i64 e0]) ∧ FamR w' gv G ∧ Below w.heap.size w w'
theorem FamR.empty (w : World) (N : Nat) : FamR w (.agg #[.int .i64 N, .slice none 0 0]) ⟨N, []⟩ :=
  ⟨none, 0, [], rfl, ⟨by simp, .inl rfl⟩, fun x hx => by simp at hx, rfl, Nat.le_refl _⟩
set_option maxHeartbeats 2000000 in
theorem rfnew_is (n : Nat) (w : World) (hn : n ≤ 65536) : Calls Tryz.prog 55 #[.int .i64 n] w (RNew w ⟨n, []⟩ 0) := by
  go_enter Tryz.func55, Tryz.ntmps55
  go_wp2_with fail
  (try simp only [Exit.inBlock, Exit.then])
  refine bodyPost_ret (v := .tuple #[.agg #[.int .i64 n, .slice none 0 0], .int .i64 0]) (by first | (rw [results_cell_tmp rfl]; go_simp; done) | (rw [results_cell_tmp2 rfl]; go_simp; done) | (rw [results_cell_one rfl]; go_simp; done)) rfl ?_
  exact ⟨_, rfl, FamR.empty _ _, (Below.refl _ _).onAlloc _⟩
end Go.Proofs.YtpakjddfnhnndaaGreat
